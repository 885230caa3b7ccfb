/- The message of a request, the program's: walked. -/
import Derived.Test.YtinnaiofgbjicaaDoorReqQ
namespace Go.Proofs.YtinnaiofgbjicaaDoor
open Go.RowKit Go.Proofs.YtinnaiofgbjicaaDoorW.PrintWords
set_option linter.unusedSimpArgs false
set_option linter.unusedVariables false
set_option maxRecDepth 1000000
theorem BS.nil' (w : World) : BS w none [] 0 := ⟨Nat.le_refl _, fun _ => rfl, by omega, reads_nil _ _, Byt.nil⟩
theorem BS.own {w : World} {base : Nat} {v : Value} {b : List Int} (h : w.ownsRow base 5 1 v b.length (nums .u8 b)) (hy : Byt b) : ∃ A c, v = .slice A b.length c ∧ BS w A b c := by
  obtain ⟨A, c, rfl, hr⟩ := own_reads h
  obtain ⟨h2, h3⟩ := own_nilc h
  exact ⟨A, c, rfl, own_le h, h2, h3, hr, hy⟩
/-- A request's arguments. -/
def argsQ (k : Nat) (q : Q9) : List V8 :=
  if k = 0 ∨ k = 7 ∨ k = 17 ∨ k = 18 then [vI q.a, vI q.b]
  else if k = 2 then [vR q.x0 q.y0 q.x1 q.y1, vB q.d]
  else if k = 6 ∨ k = 11 ∨ k = 12 then [vR q.x0 q.y0 q.x1 q.y1]
  else if k = 14 then [vS q.s]
  else if k = 5 ∨ k = 8 ∨ k = 10 ∨ k = 13 ∨ k = 15 then [vI q.a]
  else []
structure Q9.Bd (q : Q9) : Prop where
  op : -9223372036854775808 ≤ q.op ∧ q.op ≤ 9223372036854775807
  id : -9223372036854775808 ≤ q.id ∧ q.id ≤ 9223372036854775807
  a : -9223372036854775808 ≤ q.a ∧ q.a ≤ 9223372036854775807
  b : -9223372036854775808 ≤ q.b ∧ q.b ≤ 9223372036854775807
  x0 : -9223372036854775808 ≤ q.x0 ∧ q.x0 ≤ 9223372036854775807
  y0 : -9223372036854775808 ≤ q.y0 ∧ q.y0 ≤ 9223372036854775807
  x1 : -9223372036854775808 ≤ q.x1 ∧ q.x1 ≤ 9223372036854775807
  y1 : -9223372036854775808 ≤ q.y1 ∧ q.y1 ≤ 9223372036854775807
  s : q.s.size ≤ 140737488351232
  d : q.d.length ≤ 140737488351232
  byt : Byt q.d
theorem vI_ok9 {n : Int} (h : -9223372036854775808 ≤ n ∧ n ≤ 9223372036854775807) : (vI n).Ok := ⟨by simp [vI, v0], h, by simp [vI, v0, ByteArray.size], by simp [vI, v0], by simp [vI, v0], by simp [vI, v0], by simp [vI, v0], by simp [vI, v0]⟩
theorem vS_ok {s : ByteArray} (h : s.size ≤ 140737488351232) : (vS s).Ok := ⟨by simp [vS, v0], by simp [vS, v0], h, by simp [vS, v0], by simp [vS, v0], by simp [vS, v0], by simp [vS, v0], by simp [vS, v0]⟩
theorem vR_ok {x0 y0 x1 y1 : Int} (h0 : -9223372036854775808 ≤ x0 ∧ x0 ≤ 9223372036854775807) (h1 : -9223372036854775808 ≤ y0 ∧ y0 ≤ 9223372036854775807) (h2 : -9223372036854775808 ≤ x1 ∧ x1 ≤ 9223372036854775807) (h3 : -9223372036854775808 ≤ y1 ∧ y1 ≤ 9223372036854775807) : (vR x0 y0 x1 y1).Ok := ⟨by simp [vR, v0], by simp [vR, v0], by simp [vR, v0, ByteArray.size], h0, h1, h2, h3, by simp [vR, v0]⟩
theorem vB_ok {d : List Int} (h : d.length ≤ 140737488351232) : (vB d).Ok := ⟨by simp [vB, v0], by simp [vB, v0], by simp [vB, v0, ByteArray.size], by simp [vB, v0], by simp [vB, v0], by simp [vB, v0], by simp [vB, v0], h⟩
theorem ok_0 : AllOk [] := fun i hi => by simp at hi
theorem ok_1 {x : V8} (h : x.Ok) : AllOk [x] := fun i hi => by
  obtain rfl : i = 0 := by simp at hi; omega
  exact h
theorem ok_2 {x y : V8} (h : x.Ok) (h' : y.Ok) : AllOk [x, y] := fun i hi => by
  have : i = 0 ∨ i = 1 := by simp at hi; omega
  rcases this with rfl | rfl
  · exact h
  · exact h'
theorem args_ok (k : Nat) {q : Q9} (h : q.Bd) : AllOk (argsQ k q) := by
  unfold argsQ
  split
  · exact ok_2 (vI_ok9 h.a) (vI_ok9 h.b)
  · split
    · exact ok_2 (vR_ok h.x0 h.y0 h.x1 h.y1) (vB_ok h.d)
    · split
      · exact ok_1 (vR_ok h.x0 h.y0 h.x1 h.y1)
      · split
        · exact ok_1 (vS_ok h.s)
        · split
          · exact ok_1 (vI_ok9 h.a)
          · exact ok_0
theorem args_byt (k : Nat) {q : Q9} (h : q.Bd) (i : Nat) : Byt (at8 (argsQ k q) i).b := by
  unfold argsQ
  split
  · match i with
    | 0 => exact Byt.nil
    | 1 => exact Byt.nil
    | j + 2 => exact Byt.nil
  · split
    · match i with
      | 0 => exact Byt.nil
      | 1 => exact h.byt
      | j + 2 => exact Byt.nil
    · split
      · match i with
        | 0 => exact Byt.nil
        | j + 1 => exact Byt.nil
      · split
        · match i with
          | 0 => exact Byt.nil
          | j + 1 => exact Byt.nil
        · split
          · match i with
            | 0 => exact Byt.nil
            | j + 1 => exact Byt.nil
          · exact Byt.nil
theorem packFrom_byt {f : ByteArray} {l : List V8} (h : ∀ i, Byt (at8 l i).b) : ∀ (k : Nat) (b : List Int), packFrom f l k = some b → Byt b
  | 0, b, e => by simp only [packFrom, Option.some.injEq] at e; rw [← e]; exact Byt.nil
  | k + 1, b, e => by
    simp only [packFrom] at e
    split at e
    · cases e
    · split at e
      · injection e with e
        rw [← e]
        exact Byt.append (packFrom_byt h k _ ‹_›) (putB_byt (h k))
      · cases e
theorem packP_byt {f : ByteArray} {l : List V8} (h : ∀ i, Byt (at8 l i).b) : Byt (packP f l).2 := by
  unfold packP
  split
  · split
    · exact Byt.nil
    · split
      · exact packFrom_byt h _ _ ‹_›
      · exact Byt.nil
  · exact Byt.nil
theorem packP_len (f : ByteArray) (l : List V8) : (packP f l).2.length ≤ 4096 := by
  unfold packP
  split
  · split
    · simp
    · split
      · assumption
      · simp
  · simp
theorem args_len {k : Nat} (hk : k < 19) (q : Q9) : (formQ k).size = (argsQ k q).length := by
  rcases lt19 hk with rfl | rfl | rfl | rfl | rfl | rfl | rfl | rfl | rfl | rfl | rfl | rfl | rfl | rfl | rfl | rfl | rfl | rfl | rfl <;> rfl
theorem list_all {k : Nat} (hk : k < 19) (q : Q9) (A : Option Addr) (c : Nat) (w : World) (hdc : q.d.length ≤ c) (hrd : ReadsInt w .u8 A q.d.length q.d) : Calls Tryd.prog 59 #[(.agg #[.int .i64 q.op, .int .i64 q.id, .int .i64 q.a, .int .i64 q.b, .int .i64 q.x0, .int .i64 q.y0, .int .i64 q.x1, .int .i64 q.y1, .string q.s, .slice A q.d.length c]), .string (formQ k)] w (ListP w (argsQ k q)) := by
  have h0 : ∀ f : ByteArray, f.size = 0 → Calls Tryd.prog 59 #[(.agg #[.int .i64 q.op, .int .i64 q.id, .int .i64 q.a, .int .i64 q.b, .int .i64 q.x0, .int .i64 q.y0, .int .i64 q.x1, .int .i64 q.y1, .string q.s, .slice A q.d.length c]), .string f] w (ListP w []) := fun f hs => list_num f [] _ _ _ _ _ _ _ _ _ _ _ _ w hs (by omega) (fun i hi => by omega)
  have h1 : ∀ f : ByteArray, f.size = 1 → (byN f 0 = 117 ∨ byN f 0 = 105) → Calls Tryd.prog 59 #[(.agg #[.int .i64 q.op, .int .i64 q.id, .int .i64 q.a, .int .i64 q.b, .int .i64 q.x0, .int .i64 q.y0, .int .i64 q.x1, .int .i64 q.y1, .string q.s, .slice A q.d.length c]), .string f] w (ListP w [vI q.a]) := fun f hs hb => list_num f [vI q.a] _ _ _ _ _ _ _ _ _ _ _ _ w hs (by omega) (fun i hi => by
    obtain rfl : i = 0 := by omega
    exact ⟨hb, rfl⟩)
  have h2 : ∀ f : ByteArray, f.size = 2 → (byN f 0 = 117 ∨ byN f 0 = 105) → (byN f 1 = 117 ∨ byN f 1 = 105) → Calls Tryd.prog 59 #[(.agg #[.int .i64 q.op, .int .i64 q.id, .int .i64 q.a, .int .i64 q.b, .int .i64 q.x0, .int .i64 q.y0, .int .i64 q.x1, .int .i64 q.y1, .string q.s, .slice A q.d.length c]), .string f] w (ListP w [vI q.a, vI q.b]) := fun f hs hb hb1 => list_num f [vI q.a, vI q.b] _ _ _ _ _ _ _ _ _ _ _ _ w hs (by omega) (fun i hi => by
    have : i = 0 ∨ i = 1 := by omega
    rcases this with rfl | rfl
    · exact ⟨hb, rfl⟩
    · exact ⟨hb1, rfl⟩)
  have hr : ∀ f : ByteArray, f.size = 1 → byN f 0 = 114 → Calls Tryd.prog 59 #[(.agg #[.int .i64 q.op, .int .i64 q.id, .int .i64 q.a, .int .i64 q.b, .int .i64 q.x0, .int .i64 q.y0, .int .i64 q.x1, .int .i64 q.y1, .string q.s, .slice A q.d.length c]), .string f] w (ListP w [vR q.x0 q.y0 q.x1 q.y1]) := fun f hs hb => list_oth f [vR q.x0 q.y0 q.x1 q.y1] _ _ _ _ _ _ _ _ _ _ _ _ w hdc hrd hs (by omega) (fun i hi => by
    obtain rfl : i = 0 := by omega
    exact .inr (.inl ⟨hb, rfl⟩))
  have hst : ∀ f : ByteArray, f.size = 1 → byN f 0 = 115 → Calls Tryd.prog 59 #[(.agg #[.int .i64 q.op, .int .i64 q.id, .int .i64 q.a, .int .i64 q.b, .int .i64 q.x0, .int .i64 q.y0, .int .i64 q.x1, .int .i64 q.y1, .string q.s, .slice A q.d.length c]), .string f] w (ListP w [vS q.s]) := fun f hs hb => list_oth f [vS q.s] _ _ _ _ _ _ _ _ _ _ _ _ w hdc hrd hs (by omega) (fun i hi => by
    obtain rfl : i = 0 := by omega
    exact .inl ⟨hb, rfl⟩)
  have hrb : ∀ f : ByteArray, f.size = 2 → byN f 0 = 114 → byN f 1 = 98 → Calls Tryd.prog 59 #[(.agg #[.int .i64 q.op, .int .i64 q.id, .int .i64 q.a, .int .i64 q.b, .int .i64 q.x0, .int .i64 q.y0, .int .i64 q.x1, .int .i64 q.y1, .string q.s, .slice A q.d.length c]), .string f] w (ListP w [vR q.x0 q.y0 q.x1 q.y1, vB q.d]) := fun f hs hb hb1 => list_oth f [vR q.x0 q.y0 q.x1 q.y1, vB q.d] _ _ _ _ _ _ _ _ _ _ _ _ w hdc hrd hs (by omega) (fun i hi => by
    have : i = 0 ∨ i = 1 := by omega
    rcases this with rfl | rfl
    · exact .inr (.inl ⟨hb, rfl⟩)
    · exact .inr (.inr ⟨hb1, rfl⟩))
  rcases lt19 hk with rfl | rfl | rfl | rfl | rfl | rfl | rfl | rfl | rfl | rfl | rfl | rfl | rfl | rfl | rfl | rfl | rfl | rfl | rfl
  · exact h2 _ rfl (.inl rfl) (.inl rfl)
  · exact h0 _ rfl
  · exact hrb _ rfl rfl rfl
  · exact h0 _ rfl
  · exact h0 _ rfl
  · exact h1 _ rfl (.inl rfl)
  · exact hr _ rfl rfl
  · exact h2 _ rfl (.inr rfl) (.inr rfl)
  · exact h1 _ rfl (.inl rfl)
  · exact h0 _ rfl
  · exact h1 _ rfl (.inl rfl)
  · exact hr _ rfl rfl
  · exact hr _ rfl rfl
  · exact h1 _ rfl (.inl rfl)
  · exact hst _ rfl rfl
  · exact h1 _ rfl (.inl rfl)
  · exact h0 _ rfl
  · exact h2 _ rfl (.inr rfl) (.inr rfl)
  · exact h2 _ rfl (.inr rfl) (.inr rfl)
/-- The error's number and the message of a request. -/
def encK (T : ByteArray → Bool) (k : Nat) (q : Q9) : Int × M3 :=
  if (packP (formQ k) (argsQ k q)).1 = 0 ∧ mayM k q.id (packP (formQ k) (argsQ k q)).2.length = true ∧ (decK T k q.id (packP (formQ k) (argsQ k q)).2).1 = 0 ∧ (decK T k q.id (packP (formQ k) (argsQ k q)).2).2 = q then (0, ⟨k, q.id, (packP (formQ k) (argsQ k q)).2⟩) else (1, ⟨0, 0, []⟩)
def EncPost (w : World) (r : Int × M3) (e : Ending) (w' : World) : Prop := ∃ A c, e = .returned (.tuple #[(.agg #[.int .i64 (r.2.op), .int .i64 (r.2.id), .slice A r.2.b.length c]), .int .i64 r.1]) ∧ BS w' A r.2.b c ∧ Below w.heap.size w w'
set_option maxHeartbeats 2000000 in
theorem req_EncodeK (T : ByteArray → Bool) {k : Nat} (hk : k < 19) (q : Q9) (hop : q.op = k) (hq : q.Bd) (A : Option Addr) (c : Nat) (w : World) (hdc : q.d.length ≤ c) (hrd : ReadsInt w .u8 A q.d.length q.d) (hT : TitOK (TitW w) T k q.id (packP (formQ k) (argsQ k q)).2) : Calls Tryd.prog 32 #[(.agg #[.int .i64 q.op, .int .i64 q.id, .int .i64 q.a, .int .i64 q.b, .int .i64 q.x0, .int .i64 q.y0, .int .i64 q.x1, .int .i64 q.y1, .string q.s, .slice A q.d.length c])] w (EncPost w (encK T k q)) := by
  have hf := form_small hk
  have cF := fun w => req_FormY k w hk
  have cL : ∀ w1, Below w.heap.size w w1 → Calls Tryd.prog 59 #[(.agg #[.int .i64 q.op, .int .i64 q.id, .int .i64 q.a, .int .i64 q.b, .int .i64 q.x0, .int .i64 q.y0, .int .i64 q.x1, .int .i64 q.y1, .string q.s, .slice A q.d.length c]), .string (formQ k)] w1 (ListP w1 (argsQ k q)) := fun w1 hb => list_all hk q A c w1 hdc (hrd.below hb)
  have hpl := packP_len (formQ k) (argsQ k q)
  have hpb := packP_byt (f := formQ k) (args_byt k hq)
  have cP : ∀ w A c, (argsQ k q).length ≤ c → AnyRow w A (argsQ k q) → Calls Tryd.prog 58 #[.string (formQ k), .slice A (argsQ k q).length c] w fun e w' => ∃ A c, e = .returned (.tuple #[.slice A (packP (formQ k) (argsQ k q)).2.length c, .int .i64 (packP (formQ k) (argsQ k q)).1]) ∧ BS w' A (packP (formQ k) (argsQ k q)).2 c ∧ Below w.heap.size w w' := fun w A c h1 h2 => by
    refine (args_Pack _ A _ c w h1 (by omega) (args_ok k hq) h2).mono ?_
    rintro e w' ⟨A', n, c', he, hn, ⟨h1, h2, h3⟩, hr, hb⟩
    subst hn
    exact ⟨A', c', he, ⟨h1, h2, h3, hr, hpb⟩, hb⟩
  have cM := fun A c w => frame_May (k : Int) q.id A (packP (formQ k) (argsQ k q)).2.length c w (by omega)
  have cD := fun w1 A c (hs : BS w1 A (packP (formQ k) (argsQ k q)).2 c) (hb : Below w.heap.size w w1) => req_DecodeO T (k : Int) q.id A _ c w1 hs (by omega) (fun h1 h2 => (hT h1 h2).at hb)
  simp only [decO_k T hk] at cD
  have hqd : DecPost = DecPost := rfl
  have cS : ∀ w1 DA dc, ReadsInt w1 .u8 DA (decK T k q.id (packP (formQ k) (argsQ k q)).2).2.d.length (decK T k q.id (packP (formQ k) (argsQ k q)).2).2.d → Below w.heap.size w w1 → Calls Tryd.prog 35 #[(.agg #[.int .i64 (decK T k q.id (packP (formQ k) (argsQ k q)).2).2.op, .int .i64 (decK T k q.id (packP (formQ k) (argsQ k q)).2).2.id, .int .i64 (decK T k q.id (packP (formQ k) (argsQ k q)).2).2.a, .int .i64 (decK T k q.id (packP (formQ k) (argsQ k q)).2).2.b, .int .i64 (decK T k q.id (packP (formQ k) (argsQ k q)).2).2.x0, .int .i64 (decK T k q.id (packP (formQ k) (argsQ k q)).2).2.y0, .int .i64 (decK T k q.id (packP (formQ k) (argsQ k q)).2).2.x1, .int .i64 (decK T k q.id (packP (formQ k) (argsQ k q)).2).2.y1, .string (decK T k q.id (packP (formQ k) (argsQ k q)).2).2.s, .slice DA (decK T k q.id (packP (formQ k) (argsQ k q)).2).2.d.length dc]), (.agg #[.int .i64 q.op, .int .i64 q.id, .int .i64 q.a, .int .i64 q.b, .int .i64 q.x0, .int .i64 q.y0, .int .i64 q.x1, .int .i64 q.y1, .string q.s, .slice A q.d.length c])] w1 fun e w' => e = .returned (.bool (decide ((decK T k q.id (packP (formQ k) (argsQ k q)).2).2 = q))) ∧ Below w1.heap.size w1 w' := fun w1 DA dc h1 hb => req_Same _ q DA A dc c w1 h1 (hrd.below hb)
  unfold DecPost at cD
  unfold ListP at cL
  unfold encK
  generalize decK T k q.id (packP (formQ k) (argsQ k q)).2 = r at *
  generalize packP (formQ k) (argsQ k q) = p at *
  rcases p with ⟨i, b⟩
  rcases r with ⟨i', q'⟩
  simp only at cP cM cD cS hpl hpb ⊢
  rw [hop] at cL cS ⊢
  generalize formQ k = f at *
  generalize argsQ k q = l at *
  have hk0 : (0 : Int) ≤ (k : Int) := by omega
  have hk1 : (k : Int) < 19 := by omega
  clear hrd hdc hT hpb hf hqd hq
  by_cases h1 : i = 0
  · have i0 : (i == 0) = true := by simp [h1]
    have i1 : (i != 0) = false := by simp [h1]
    by_cases h2 : mayM k q.id b.length = true
    · rw [h2] at cM
      by_cases h3 : i' = 0
      · have i2 : (i' == 0) = true := by simp [h3]
        have i3 : (i' != 0) = false := by simp [h3]
        by_cases h4 : q' = q
        · rw [if_pos ⟨h1, h2, h3, h4⟩]
          rw [decide_eq_true h4] at cS
          replace h1 := Lib.hid h1; replace h2 := Lib.hid h2; replace h3 := Lib.hid h3; replace h4 := Lib.hid h4; replace hop := Lib.hid hop
          (go_enter Tryd.func32, Tryd.ntmps32; go_wp2_with (first | (go_at_call 19; (with_reducible refine (cF _).mono ?_); rintro en w1 ⟨rfl, hb1⟩; obtain ⟨hc1, hf1⟩ := bcell hb1; have hz1 := hb1.size; (try simp only [World.size_alloc, World.size_setCell, World.size_drew] at hz1)) | (go_at_call 59; (with_reducible refine (cL _ ?_).mono ?_); (focus ((repeat (first | (with_reducible exact Below.refl _ _) | ((with_reducible refine Below.alloc ?_ ?hB _); (case hB => (first | omega | (simp; done) | (simp; omega)))) | ((with_reducible refine Below.setCell ?_ ?hB _); (case hB => (first | omega | (simp; done) | (simp; omega)))) | (with_reducible refine Below.drew ?_) | ((with_reducible refine below_ext_of ?_ ?hB); (case hB => (first | omega | (simp; done) | (simp; omega)))) | ((with_reducible refine Below.trans ?_ (Below.mono (by assumption) ?hB)); (case hB => (first | omega | (simp; done) | (simp; omega)))))); done)); rintro en w2 ⟨A2, c2, rfl, hlc2, hr2, hb2⟩; replace hr2 := Lib.hid hr2; replace hlc2 := Lib.hid hlc2; obtain ⟨hc2, hf2⟩ := bcell hb2; have hz2 := hb2.size; (try simp only [World.size_alloc, World.size_setCell, World.size_drew] at hz2)) | (go_at_call 58; (with_reducible refine (cP _ _ _ hlc2.out hr2.out).mono ?_); rintro en w3 ⟨A3, c3, rfl, hs3, hb3⟩; replace hs3 := Lib.hid hs3; obtain ⟨hc3, hf3⟩ := bcell hb3; have hz3 := hb3.size; (try simp only [World.size_alloc, World.size_setCell, World.size_drew] at hz3)) | (go_at_call 44; (with_reducible refine (cM _ _ _).mono ?_); rintro en w4 ⟨rfl, hb4⟩; obtain ⟨hc4, hf4⟩ := bcell hb4; have hz4 := hb4.size; (try simp only [World.size_alloc, World.size_setCell, World.size_drew] at hz4)) | (go_at_call 15; (with_reducible refine (cD _ _ _ (hs3.out.below ?_) ?_).mono ?_); (focus ((repeat (first | (with_reducible exact Below.refl _ _) | ((with_reducible refine Below.alloc ?_ ?hB _); (case hB => (first | omega | (simp; done) | (simp; omega)))) | ((with_reducible refine Below.setCell ?_ ?hB _); (case hB => (first | omega | (simp; done) | (simp; omega)))) | (with_reducible refine Below.drew ?_) | ((with_reducible refine below_ext_of ?_ ?hB); (case hB => (first | omega | (simp; done) | (simp; omega)))) | ((with_reducible refine Below.trans ?_ (Below.mono (by assumption) ?hB)); (case hB => (first | omega | (simp; done) | (simp; omega)))))); done)); (focus ((repeat (first | (with_reducible exact Below.refl _ _) | ((with_reducible refine Below.alloc ?_ ?hB _); (case hB => (first | omega | (simp; done) | (simp; omega)))) | ((with_reducible refine Below.setCell ?_ ?hB _); (case hB => (first | omega | (simp; done) | (simp; omega)))) | (with_reducible refine Below.drew ?_) | ((with_reducible refine below_ext_of ?_ ?hB); (case hB => (first | omega | (simp; done) | (simp; omega)))) | ((with_reducible refine Below.trans ?_ (Below.mono (by assumption) ?hB)); (case hB => (first | omega | (simp; done) | (simp; omega)))))); done)); rintro en w5 ⟨DA5, dc5, rfl, hlc5, hr5, hb5⟩; replace hr5 := Lib.hid hr5; replace hlc5 := Lib.hid hlc5; obtain ⟨hc5, hf5⟩ := bcell hb5; have hz5 := hb5.size; (try simp only [World.size_alloc, World.size_setCell, World.size_drew] at hz5)) | (go_at_call 35; (with_reducible refine (cS _ _ _ (hr5.out.below ?_) ?_).mono ?_); (focus ((repeat (first | (with_reducible exact Below.refl _ _) | ((with_reducible refine Below.alloc ?_ ?hB _); (case hB => (first | omega | (simp; done) | (simp; omega)))) | ((with_reducible refine Below.setCell ?_ ?hB _); (case hB => (first | omega | (simp; done) | (simp; omega)))) | (with_reducible refine Below.drew ?_) | ((with_reducible refine below_ext_of ?_ ?hB); (case hB => (first | omega | (simp; done) | (simp; omega)))) | ((with_reducible refine Below.trans ?_ (Below.mono (by assumption) ?hB)); (case hB => (first | omega | (simp; done) | (simp; omega)))))); done)); (focus ((repeat (first | (with_reducible exact Below.refl _ _) | ((with_reducible refine Below.alloc ?_ ?hB _); (case hB => (first | omega | (simp; done) | (simp; omega)))) | ((with_reducible refine Below.setCell ?_ ?hB _); (case hB => (first | omega | (simp; done) | (simp; omega)))) | (with_reducible refine Below.drew ?_) | ((with_reducible refine below_ext_of ?_ ?hB); (case hB => (first | omega | (simp; done) | (simp; omega)))) | ((with_reducible refine Below.trans ?_ (Below.mono (by assumption) ?hB)); (case hB => (first | omega | (simp; done) | (simp; omega)))))); done)); rintro en w6 ⟨rfl, hb6⟩; obtain ⟨hc6, hf6⟩ := bcell hb6; have hz6 := hb6.size; (try simp only [World.size_alloc, World.size_setCell, World.size_drew] at hz6))))
          refine bodyPost_ret (v := .tuple #[(.agg #[.int .i64 (k), .int .i64 (q.id), .slice A3 b.length c3]), .int .i64 0]) (by simp [results, Tryd.results32, go_sem, ↓IntWalk.iteOmega, *]) rfl ?_
          have hs6 := hs3.out.below (show Below w3.heap.size w3 w6 from by (repeat (first | (with_reducible exact Below.refl _ _) | ((with_reducible refine Below.alloc ?_ ?hB _); (case hB => (first | omega | (simp; done) | (simp; omega)))) | ((with_reducible refine Below.setCell ?_ ?hB _); (case hB => (first | omega | (simp; done) | (simp; omega)))) | (with_reducible refine Below.drew ?_) | ((with_reducible refine below_ext_of ?_ ?hB); (case hB => (first | omega | (simp; done) | (simp; omega)))) | ((with_reducible refine Below.trans ?_ (Below.mono (by assumption) ?hB)); (case hB => (first | omega | (simp; done) | (simp; omega)))))))
          have BZ := blk_belowB (show ((w.alloc (.cells #[.int .i64 (k : Int), .int .i64 q.id, .int .i64 q.a, .int .i64 q.b, .int .i64 q.x0, .int .i64 q.y0, .int .i64 q.x1, .int .i64 q.y1, .string q.s, .slice A q.d.length c] 36)).alloc (.cells #[.int .i64 0, .int .i64 0, .slice none 0 0] 24)).heap[w.heap.size + 1]? = some (.cells #[.int .i64 0, .int .i64 0, .slice none 0 0] 24 (0, 0)) from by have := blk_new (w.alloc (.cells #[.int .i64 (k : Int), .int .i64 q.id, .int .i64 q.a, .int .i64 q.b, .int .i64 q.x0, .int .i64 q.y0, .int .i64 q.x1, .int .i64 q.y1, .string q.s, .slice A q.d.length c] 36)) (.cells #[.int .i64 0, .int .i64 0, .slice none 0 0] 24); simpa only [World.size_alloc] using this) (show Below ((w.alloc (.cells #[.int .i64 (k : Int), .int .i64 q.id, .int .i64 q.a, .int .i64 q.b, .int .i64 q.x0, .int .i64 q.y0, .int .i64 q.x1, .int .i64 q.y1, .string q.s, .slice A q.d.length c] 36)).alloc (.cells #[.int .i64 0, .int .i64 0, .slice none 0 0] 24)).heap.size ((w.alloc (.cells #[.int .i64 (k : Int), .int .i64 q.id, .int .i64 q.a, .int .i64 q.b, .int .i64 q.x0, .int .i64 q.y0, .int .i64 q.x1, .int .i64 q.y1, .string q.s, .slice A q.d.length c] 36)).alloc (.cells #[.int .i64 0, .int .i64 0, .slice none 0 0] 24)) w6 from by (repeat (first | (with_reducible exact Below.refl _ _) | ((with_reducible refine Below.alloc ?_ ?hB _); (case hB => (first | omega | (simp; done) | (simp; omega)))) | ((with_reducible refine Below.setCell ?_ ?hB _); (case hB => (first | omega | (simp; done) | (simp; omega)))) | (with_reducible refine Below.drew ?_) | ((with_reducible refine below_ext_of ?_ ?hB); (case hB => (first | omega | (simp; done) | (simp; omega)))) | ((with_reducible refine Below.trans ?_ (Below.mono (by assumption) ?hB)); (case hB => (first | omega | (simp; done) | (simp; omega))))))) (by simp)
          have hne := reads_apart hs6.rd BZ
          exact ⟨A3, c3, rfl, ((hs6.set hne _).set hne _).set hne _, by (repeat (first | (with_reducible exact Below.refl _ _) | ((with_reducible refine Below.alloc ?_ ?hB _); (case hB => (first | omega | (simp; done) | (simp; omega)))) | ((with_reducible refine Below.setCell ?_ ?hB _); (case hB => (first | omega | (simp; done) | (simp; omega)))) | (with_reducible refine Below.drew ?_) | ((with_reducible refine below_ext_of ?_ ?hB); (case hB => (first | omega | (simp; done) | (simp; omega)))) | ((with_reducible refine Below.trans ?_ (Below.mono (by assumption) ?hB)); (case hB => (first | omega | (simp; done) | (simp; omega))))))⟩
        · rw [if_neg (fun h => h4 h.2.2.2)]
          rw [decide_eq_false h4] at cS
          replace h1 := Lib.hid h1; replace h2 := Lib.hid h2; replace h3 := Lib.hid h3; replace h4 := Lib.hid h4; replace hop := Lib.hid hop
          ((go_enter Tryd.func32, Tryd.ntmps32; go_wp2_with (first | (go_at_call 19; (with_reducible refine (cF _).mono ?_); rintro en w1 ⟨rfl, hb1⟩; obtain ⟨hc1, hf1⟩ := bcell hb1; have hz1 := hb1.size; (try simp only [World.size_alloc, World.size_setCell, World.size_drew] at hz1)) | (go_at_call 59; (with_reducible refine (cL _ ?_).mono ?_); (focus ((repeat (first | (with_reducible exact Below.refl _ _) | ((with_reducible refine Below.alloc ?_ ?hB _); (case hB => (first | omega | (simp; done) | (simp; omega)))) | ((with_reducible refine Below.setCell ?_ ?hB _); (case hB => (first | omega | (simp; done) | (simp; omega)))) | (with_reducible refine Below.drew ?_) | ((with_reducible refine below_ext_of ?_ ?hB); (case hB => (first | omega | (simp; done) | (simp; omega)))) | ((with_reducible refine Below.trans ?_ (Below.mono (by assumption) ?hB)); (case hB => (first | omega | (simp; done) | (simp; omega)))))); done)); rintro en w2 ⟨A2, c2, rfl, hlc2, hr2, hb2⟩; replace hr2 := Lib.hid hr2; replace hlc2 := Lib.hid hlc2; obtain ⟨hc2, hf2⟩ := bcell hb2; have hz2 := hb2.size; (try simp only [World.size_alloc, World.size_setCell, World.size_drew] at hz2)) | (go_at_call 58; (with_reducible refine (cP _ _ _ hlc2.out hr2.out).mono ?_); rintro en w3 ⟨A3, c3, rfl, hs3, hb3⟩; replace hs3 := Lib.hid hs3; obtain ⟨hc3, hf3⟩ := bcell hb3; have hz3 := hb3.size; (try simp only [World.size_alloc, World.size_setCell, World.size_drew] at hz3)) | (go_at_call 44; (with_reducible refine (cM _ _ _).mono ?_); rintro en w4 ⟨rfl, hb4⟩; obtain ⟨hc4, hf4⟩ := bcell hb4; have hz4 := hb4.size; (try simp only [World.size_alloc, World.size_setCell, World.size_drew] at hz4)) | (go_at_call 15; (with_reducible refine (cD _ _ _ (hs3.out.below ?_) ?_).mono ?_); (focus ((repeat (first | (with_reducible exact Below.refl _ _) | ((with_reducible refine Below.alloc ?_ ?hB _); (case hB => (first | omega | (simp; done) | (simp; omega)))) | ((with_reducible refine Below.setCell ?_ ?hB _); (case hB => (first | omega | (simp; done) | (simp; omega)))) | (with_reducible refine Below.drew ?_) | ((with_reducible refine below_ext_of ?_ ?hB); (case hB => (first | omega | (simp; done) | (simp; omega)))) | ((with_reducible refine Below.trans ?_ (Below.mono (by assumption) ?hB)); (case hB => (first | omega | (simp; done) | (simp; omega)))))); done)); (focus ((repeat (first | (with_reducible exact Below.refl _ _) | ((with_reducible refine Below.alloc ?_ ?hB _); (case hB => (first | omega | (simp; done) | (simp; omega)))) | ((with_reducible refine Below.setCell ?_ ?hB _); (case hB => (first | omega | (simp; done) | (simp; omega)))) | (with_reducible refine Below.drew ?_) | ((with_reducible refine below_ext_of ?_ ?hB); (case hB => (first | omega | (simp; done) | (simp; omega)))) | ((with_reducible refine Below.trans ?_ (Below.mono (by assumption) ?hB)); (case hB => (first | omega | (simp; done) | (simp; omega)))))); done)); rintro en w5 ⟨DA5, dc5, rfl, hlc5, hr5, hb5⟩; replace hr5 := Lib.hid hr5; replace hlc5 := Lib.hid hlc5; obtain ⟨hc5, hf5⟩ := bcell hb5; have hz5 := hb5.size; (try simp only [World.size_alloc, World.size_setCell, World.size_drew] at hz5)) | (go_at_call 35; (with_reducible refine (cS _ _ _ (hr5.out.below ?_) ?_).mono ?_); (focus ((repeat (first | (with_reducible exact Below.refl _ _) | ((with_reducible refine Below.alloc ?_ ?hB _); (case hB => (first | omega | (simp; done) | (simp; omega)))) | ((with_reducible refine Below.setCell ?_ ?hB _); (case hB => (first | omega | (simp; done) | (simp; omega)))) | (with_reducible refine Below.drew ?_) | ((with_reducible refine below_ext_of ?_ ?hB); (case hB => (first | omega | (simp; done) | (simp; omega)))) | ((with_reducible refine Below.trans ?_ (Below.mono (by assumption) ?hB)); (case hB => (first | omega | (simp; done) | (simp; omega)))))); done)); (focus ((repeat (first | (with_reducible exact Below.refl _ _) | ((with_reducible refine Below.alloc ?_ ?hB _); (case hB => (first | omega | (simp; done) | (simp; omega)))) | ((with_reducible refine Below.setCell ?_ ?hB _); (case hB => (first | omega | (simp; done) | (simp; omega)))) | (with_reducible refine Below.drew ?_) | ((with_reducible refine below_ext_of ?_ ?hB); (case hB => (first | omega | (simp; done) | (simp; omega)))) | ((with_reducible refine Below.trans ?_ (Below.mono (by assumption) ?hB)); (case hB => (first | omega | (simp; done) | (simp; omega)))))); done)); rintro en w6 ⟨rfl, hb6⟩; obtain ⟨hc6, hf6⟩ := bcell hb6; have hz6 := hb6.size; (try simp only [World.size_alloc, World.size_setCell, World.size_drew] at hz6)))); refine bodyPost_ret (v := .tuple #[(.agg #[.int .i64 (0), .int .i64 (0), .slice none 0 0]), .int .i64 1]) (by simp [results, Tryd.results32, go_sem, ↓IntWalk.iteOmega, *]) rfl ?_; exact ⟨none, 0, rfl, BS.nil' _, by (repeat (first | (with_reducible exact Below.refl _ _) | ((with_reducible refine Below.alloc ?_ ?hB _); (case hB => (first | omega | (simp; done) | (simp; omega)))) | ((with_reducible refine Below.setCell ?_ ?hB _); (case hB => (first | omega | (simp; done) | (simp; omega)))) | (with_reducible refine Below.drew ?_) | ((with_reducible refine below_ext_of ?_ ?hB); (case hB => (first | omega | (simp; done) | (simp; omega)))) | ((with_reducible refine Below.trans ?_ (Below.mono (by assumption) ?hB)); (case hB => (first | omega | (simp; done) | (simp; omega))))))⟩)
      · have i2 : (i' == 0) = false := by simp [h3]
        have i3 : (i' != 0) = true := by simp [h3]
        rw [if_neg (fun h => h3 h.2.2.1)]
        replace h1 := Lib.hid h1; replace h2 := Lib.hid h2; replace h3 := Lib.hid h3; replace hop := Lib.hid hop
        ((go_enter Tryd.func32, Tryd.ntmps32; go_wp2_with (first | (go_at_call 19; (with_reducible refine (cF _).mono ?_); rintro en w1 ⟨rfl, hb1⟩; obtain ⟨hc1, hf1⟩ := bcell hb1; have hz1 := hb1.size; (try simp only [World.size_alloc, World.size_setCell, World.size_drew] at hz1)) | (go_at_call 59; (with_reducible refine (cL _ ?_).mono ?_); (focus ((repeat (first | (with_reducible exact Below.refl _ _) | ((with_reducible refine Below.alloc ?_ ?hB _); (case hB => (first | omega | (simp; done) | (simp; omega)))) | ((with_reducible refine Below.setCell ?_ ?hB _); (case hB => (first | omega | (simp; done) | (simp; omega)))) | (with_reducible refine Below.drew ?_) | ((with_reducible refine below_ext_of ?_ ?hB); (case hB => (first | omega | (simp; done) | (simp; omega)))) | ((with_reducible refine Below.trans ?_ (Below.mono (by assumption) ?hB)); (case hB => (first | omega | (simp; done) | (simp; omega)))))); done)); rintro en w2 ⟨A2, c2, rfl, hlc2, hr2, hb2⟩; replace hr2 := Lib.hid hr2; replace hlc2 := Lib.hid hlc2; obtain ⟨hc2, hf2⟩ := bcell hb2; have hz2 := hb2.size; (try simp only [World.size_alloc, World.size_setCell, World.size_drew] at hz2)) | (go_at_call 58; (with_reducible refine (cP _ _ _ hlc2.out hr2.out).mono ?_); rintro en w3 ⟨A3, c3, rfl, hs3, hb3⟩; replace hs3 := Lib.hid hs3; obtain ⟨hc3, hf3⟩ := bcell hb3; have hz3 := hb3.size; (try simp only [World.size_alloc, World.size_setCell, World.size_drew] at hz3)) | (go_at_call 44; (with_reducible refine (cM _ _ _).mono ?_); rintro en w4 ⟨rfl, hb4⟩; obtain ⟨hc4, hf4⟩ := bcell hb4; have hz4 := hb4.size; (try simp only [World.size_alloc, World.size_setCell, World.size_drew] at hz4)) | (go_at_call 15; (with_reducible refine (cD _ _ _ (hs3.out.below ?_) ?_).mono ?_); (focus ((repeat (first | (with_reducible exact Below.refl _ _) | ((with_reducible refine Below.alloc ?_ ?hB _); (case hB => (first | omega | (simp; done) | (simp; omega)))) | ((with_reducible refine Below.setCell ?_ ?hB _); (case hB => (first | omega | (simp; done) | (simp; omega)))) | (with_reducible refine Below.drew ?_) | ((with_reducible refine below_ext_of ?_ ?hB); (case hB => (first | omega | (simp; done) | (simp; omega)))) | ((with_reducible refine Below.trans ?_ (Below.mono (by assumption) ?hB)); (case hB => (first | omega | (simp; done) | (simp; omega)))))); done)); (focus ((repeat (first | (with_reducible exact Below.refl _ _) | ((with_reducible refine Below.alloc ?_ ?hB _); (case hB => (first | omega | (simp; done) | (simp; omega)))) | ((with_reducible refine Below.setCell ?_ ?hB _); (case hB => (first | omega | (simp; done) | (simp; omega)))) | (with_reducible refine Below.drew ?_) | ((with_reducible refine below_ext_of ?_ ?hB); (case hB => (first | omega | (simp; done) | (simp; omega)))) | ((with_reducible refine Below.trans ?_ (Below.mono (by assumption) ?hB)); (case hB => (first | omega | (simp; done) | (simp; omega)))))); done)); rintro en w5 ⟨DA5, dc5, rfl, hlc5, hr5, hb5⟩; replace hr5 := Lib.hid hr5; replace hlc5 := Lib.hid hlc5; obtain ⟨hc5, hf5⟩ := bcell hb5; have hz5 := hb5.size; (try simp only [World.size_alloc, World.size_setCell, World.size_drew] at hz5)) | (go_at_call 35; (with_reducible refine (cS _ _ _ (hr5.out.below ?_) ?_).mono ?_); (focus ((repeat (first | (with_reducible exact Below.refl _ _) | ((with_reducible refine Below.alloc ?_ ?hB _); (case hB => (first | omega | (simp; done) | (simp; omega)))) | ((with_reducible refine Below.setCell ?_ ?hB _); (case hB => (first | omega | (simp; done) | (simp; omega)))) | (with_reducible refine Below.drew ?_) | ((with_reducible refine below_ext_of ?_ ?hB); (case hB => (first | omega | (simp; done) | (simp; omega)))) | ((with_reducible refine Below.trans ?_ (Below.mono (by assumption) ?hB)); (case hB => (first | omega | (simp; done) | (simp; omega)))))); done)); (focus ((repeat (first | (with_reducible exact Below.refl _ _) | ((with_reducible refine Below.alloc ?_ ?hB _); (case hB => (first | omega | (simp; done) | (simp; omega)))) | ((with_reducible refine Below.setCell ?_ ?hB _); (case hB => (first | omega | (simp; done) | (simp; omega)))) | (with_reducible refine Below.drew ?_) | ((with_reducible refine below_ext_of ?_ ?hB); (case hB => (first | omega | (simp; done) | (simp; omega)))) | ((with_reducible refine Below.trans ?_ (Below.mono (by assumption) ?hB)); (case hB => (first | omega | (simp; done) | (simp; omega)))))); done)); rintro en w6 ⟨rfl, hb6⟩; obtain ⟨hc6, hf6⟩ := bcell hb6; have hz6 := hb6.size; (try simp only [World.size_alloc, World.size_setCell, World.size_drew] at hz6)))); refine bodyPost_ret (v := .tuple #[(.agg #[.int .i64 (0), .int .i64 (0), .slice none 0 0]), .int .i64 1]) (by simp [results, Tryd.results32, go_sem, ↓IntWalk.iteOmega, *]) rfl ?_; exact ⟨none, 0, rfl, BS.nil' _, by (repeat (first | (with_reducible exact Below.refl _ _) | ((with_reducible refine Below.alloc ?_ ?hB _); (case hB => (first | omega | (simp; done) | (simp; omega)))) | ((with_reducible refine Below.setCell ?_ ?hB _); (case hB => (first | omega | (simp; done) | (simp; omega)))) | (with_reducible refine Below.drew ?_) | ((with_reducible refine below_ext_of ?_ ?hB); (case hB => (first | omega | (simp; done) | (simp; omega)))) | ((with_reducible refine Below.trans ?_ (Below.mono (by assumption) ?hB)); (case hB => (first | omega | (simp; done) | (simp; omega))))))⟩)
    · rw [if_neg (fun h => h2 h.2.1)]
      have h2' : mayM k q.id b.length = false := by simpa using h2
      rw [h2'] at cM
      replace h1 := Lib.hid h1; replace h2 := Lib.hid h2; replace h2' := Lib.hid h2'; replace hop := Lib.hid hop
      ((go_enter Tryd.func32, Tryd.ntmps32; go_wp2_with (first | (go_at_call 19; (with_reducible refine (cF _).mono ?_); rintro en w1 ⟨rfl, hb1⟩; obtain ⟨hc1, hf1⟩ := bcell hb1; have hz1 := hb1.size; (try simp only [World.size_alloc, World.size_setCell, World.size_drew] at hz1)) | (go_at_call 59; (with_reducible refine (cL _ ?_).mono ?_); (focus ((repeat (first | (with_reducible exact Below.refl _ _) | ((with_reducible refine Below.alloc ?_ ?hB _); (case hB => (first | omega | (simp; done) | (simp; omega)))) | ((with_reducible refine Below.setCell ?_ ?hB _); (case hB => (first | omega | (simp; done) | (simp; omega)))) | (with_reducible refine Below.drew ?_) | ((with_reducible refine below_ext_of ?_ ?hB); (case hB => (first | omega | (simp; done) | (simp; omega)))) | ((with_reducible refine Below.trans ?_ (Below.mono (by assumption) ?hB)); (case hB => (first | omega | (simp; done) | (simp; omega)))))); done)); rintro en w2 ⟨A2, c2, rfl, hlc2, hr2, hb2⟩; replace hr2 := Lib.hid hr2; replace hlc2 := Lib.hid hlc2; obtain ⟨hc2, hf2⟩ := bcell hb2; have hz2 := hb2.size; (try simp only [World.size_alloc, World.size_setCell, World.size_drew] at hz2)) | (go_at_call 58; (with_reducible refine (cP _ _ _ hlc2.out hr2.out).mono ?_); rintro en w3 ⟨A3, c3, rfl, hs3, hb3⟩; replace hs3 := Lib.hid hs3; obtain ⟨hc3, hf3⟩ := bcell hb3; have hz3 := hb3.size; (try simp only [World.size_alloc, World.size_setCell, World.size_drew] at hz3)) | (go_at_call 44; (with_reducible refine (cM _ _ _).mono ?_); rintro en w4 ⟨rfl, hb4⟩; obtain ⟨hc4, hf4⟩ := bcell hb4; have hz4 := hb4.size; (try simp only [World.size_alloc, World.size_setCell, World.size_drew] at hz4)) | (go_at_call 15; (with_reducible refine (cD _ _ _ (hs3.out.below ?_) ?_).mono ?_); (focus ((repeat (first | (with_reducible exact Below.refl _ _) | ((with_reducible refine Below.alloc ?_ ?hB _); (case hB => (first | omega | (simp; done) | (simp; omega)))) | ((with_reducible refine Below.setCell ?_ ?hB _); (case hB => (first | omega | (simp; done) | (simp; omega)))) | (with_reducible refine Below.drew ?_) | ((with_reducible refine below_ext_of ?_ ?hB); (case hB => (first | omega | (simp; done) | (simp; omega)))) | ((with_reducible refine Below.trans ?_ (Below.mono (by assumption) ?hB)); (case hB => (first | omega | (simp; done) | (simp; omega)))))); done)); (focus ((repeat (first | (with_reducible exact Below.refl _ _) | ((with_reducible refine Below.alloc ?_ ?hB _); (case hB => (first | omega | (simp; done) | (simp; omega)))) | ((with_reducible refine Below.setCell ?_ ?hB _); (case hB => (first | omega | (simp; done) | (simp; omega)))) | (with_reducible refine Below.drew ?_) | ((with_reducible refine below_ext_of ?_ ?hB); (case hB => (first | omega | (simp; done) | (simp; omega)))) | ((with_reducible refine Below.trans ?_ (Below.mono (by assumption) ?hB)); (case hB => (first | omega | (simp; done) | (simp; omega)))))); done)); rintro en w5 ⟨DA5, dc5, rfl, hlc5, hr5, hb5⟩; replace hr5 := Lib.hid hr5; replace hlc5 := Lib.hid hlc5; obtain ⟨hc5, hf5⟩ := bcell hb5; have hz5 := hb5.size; (try simp only [World.size_alloc, World.size_setCell, World.size_drew] at hz5)) | (go_at_call 35; (with_reducible refine (cS _ _ _ (hr5.out.below ?_) ?_).mono ?_); (focus ((repeat (first | (with_reducible exact Below.refl _ _) | ((with_reducible refine Below.alloc ?_ ?hB _); (case hB => (first | omega | (simp; done) | (simp; omega)))) | ((with_reducible refine Below.setCell ?_ ?hB _); (case hB => (first | omega | (simp; done) | (simp; omega)))) | (with_reducible refine Below.drew ?_) | ((with_reducible refine below_ext_of ?_ ?hB); (case hB => (first | omega | (simp; done) | (simp; omega)))) | ((with_reducible refine Below.trans ?_ (Below.mono (by assumption) ?hB)); (case hB => (first | omega | (simp; done) | (simp; omega)))))); done)); (focus ((repeat (first | (with_reducible exact Below.refl _ _) | ((with_reducible refine Below.alloc ?_ ?hB _); (case hB => (first | omega | (simp; done) | (simp; omega)))) | ((with_reducible refine Below.setCell ?_ ?hB _); (case hB => (first | omega | (simp; done) | (simp; omega)))) | (with_reducible refine Below.drew ?_) | ((with_reducible refine below_ext_of ?_ ?hB); (case hB => (first | omega | (simp; done) | (simp; omega)))) | ((with_reducible refine Below.trans ?_ (Below.mono (by assumption) ?hB)); (case hB => (first | omega | (simp; done) | (simp; omega)))))); done)); rintro en w6 ⟨rfl, hb6⟩; obtain ⟨hc6, hf6⟩ := bcell hb6; have hz6 := hb6.size; (try simp only [World.size_alloc, World.size_setCell, World.size_drew] at hz6)))); refine bodyPost_ret (v := .tuple #[(.agg #[.int .i64 (0), .int .i64 (0), .slice none 0 0]), .int .i64 1]) (by simp [results, Tryd.results32, go_sem, ↓IntWalk.iteOmega, *]) rfl ?_; exact ⟨none, 0, rfl, BS.nil' _, by (repeat (first | (with_reducible exact Below.refl _ _) | ((with_reducible refine Below.alloc ?_ ?hB _); (case hB => (first | omega | (simp; done) | (simp; omega)))) | ((with_reducible refine Below.setCell ?_ ?hB _); (case hB => (first | omega | (simp; done) | (simp; omega)))) | (with_reducible refine Below.drew ?_) | ((with_reducible refine below_ext_of ?_ ?hB); (case hB => (first | omega | (simp; done) | (simp; omega)))) | ((with_reducible refine Below.trans ?_ (Below.mono (by assumption) ?hB)); (case hB => (first | omega | (simp; done) | (simp; omega))))))⟩)
  · have i0 : (i == 0) = false := by simp [h1]
    have i1 : (i != 0) = true := by simp [h1]
    rw [if_neg (fun h => h1 h.1)]
    replace h1 := Lib.hid h1; replace hop := Lib.hid hop
    ((go_enter Tryd.func32, Tryd.ntmps32; go_wp2_with (first | (go_at_call 19; (with_reducible refine (cF _).mono ?_); rintro en w1 ⟨rfl, hb1⟩; obtain ⟨hc1, hf1⟩ := bcell hb1; have hz1 := hb1.size; (try simp only [World.size_alloc, World.size_setCell, World.size_drew] at hz1)) | (go_at_call 59; (with_reducible refine (cL _ ?_).mono ?_); (focus ((repeat (first | (with_reducible exact Below.refl _ _) | ((with_reducible refine Below.alloc ?_ ?hB _); (case hB => (first | omega | (simp; done) | (simp; omega)))) | ((with_reducible refine Below.setCell ?_ ?hB _); (case hB => (first | omega | (simp; done) | (simp; omega)))) | (with_reducible refine Below.drew ?_) | ((with_reducible refine below_ext_of ?_ ?hB); (case hB => (first | omega | (simp; done) | (simp; omega)))) | ((with_reducible refine Below.trans ?_ (Below.mono (by assumption) ?hB)); (case hB => (first | omega | (simp; done) | (simp; omega)))))); done)); rintro en w2 ⟨A2, c2, rfl, hlc2, hr2, hb2⟩; replace hr2 := Lib.hid hr2; replace hlc2 := Lib.hid hlc2; obtain ⟨hc2, hf2⟩ := bcell hb2; have hz2 := hb2.size; (try simp only [World.size_alloc, World.size_setCell, World.size_drew] at hz2)) | (go_at_call 58; (with_reducible refine (cP _ _ _ hlc2.out hr2.out).mono ?_); rintro en w3 ⟨A3, c3, rfl, hs3, hb3⟩; replace hs3 := Lib.hid hs3; obtain ⟨hc3, hf3⟩ := bcell hb3; have hz3 := hb3.size; (try simp only [World.size_alloc, World.size_setCell, World.size_drew] at hz3)) | (go_at_call 44; (with_reducible refine (cM _ _ _).mono ?_); rintro en w4 ⟨rfl, hb4⟩; obtain ⟨hc4, hf4⟩ := bcell hb4; have hz4 := hb4.size; (try simp only [World.size_alloc, World.size_setCell, World.size_drew] at hz4)) | (go_at_call 15; (with_reducible refine (cD _ _ _ (hs3.out.below ?_) ?_).mono ?_); (focus ((repeat (first | (with_reducible exact Below.refl _ _) | ((with_reducible refine Below.alloc ?_ ?hB _); (case hB => (first | omega | (simp; done) | (simp; omega)))) | ((with_reducible refine Below.setCell ?_ ?hB _); (case hB => (first | omega | (simp; done) | (simp; omega)))) | (with_reducible refine Below.drew ?_) | ((with_reducible refine below_ext_of ?_ ?hB); (case hB => (first | omega | (simp; done) | (simp; omega)))) | ((with_reducible refine Below.trans ?_ (Below.mono (by assumption) ?hB)); (case hB => (first | omega | (simp; done) | (simp; omega)))))); done)); (focus ((repeat (first | (with_reducible exact Below.refl _ _) | ((with_reducible refine Below.alloc ?_ ?hB _); (case hB => (first | omega | (simp; done) | (simp; omega)))) | ((with_reducible refine Below.setCell ?_ ?hB _); (case hB => (first | omega | (simp; done) | (simp; omega)))) | (with_reducible refine Below.drew ?_) | ((with_reducible refine below_ext_of ?_ ?hB); (case hB => (first | omega | (simp; done) | (simp; omega)))) | ((with_reducible refine Below.trans ?_ (Below.mono (by assumption) ?hB)); (case hB => (first | omega | (simp; done) | (simp; omega)))))); done)); rintro en w5 ⟨DA5, dc5, rfl, hlc5, hr5, hb5⟩; replace hr5 := Lib.hid hr5; replace hlc5 := Lib.hid hlc5; obtain ⟨hc5, hf5⟩ := bcell hb5; have hz5 := hb5.size; (try simp only [World.size_alloc, World.size_setCell, World.size_drew] at hz5)) | (go_at_call 35; (with_reducible refine (cS _ _ _ (hr5.out.below ?_) ?_).mono ?_); (focus ((repeat (first | (with_reducible exact Below.refl _ _) | ((with_reducible refine Below.alloc ?_ ?hB _); (case hB => (first | omega | (simp; done) | (simp; omega)))) | ((with_reducible refine Below.setCell ?_ ?hB _); (case hB => (first | omega | (simp; done) | (simp; omega)))) | (with_reducible refine Below.drew ?_) | ((with_reducible refine below_ext_of ?_ ?hB); (case hB => (first | omega | (simp; done) | (simp; omega)))) | ((with_reducible refine Below.trans ?_ (Below.mono (by assumption) ?hB)); (case hB => (first | omega | (simp; done) | (simp; omega)))))); done)); (focus ((repeat (first | (with_reducible exact Below.refl _ _) | ((with_reducible refine Below.alloc ?_ ?hB _); (case hB => (first | omega | (simp; done) | (simp; omega)))) | ((with_reducible refine Below.setCell ?_ ?hB _); (case hB => (first | omega | (simp; done) | (simp; omega)))) | (with_reducible refine Below.drew ?_) | ((with_reducible refine below_ext_of ?_ ?hB); (case hB => (first | omega | (simp; done) | (simp; omega)))) | ((with_reducible refine Below.trans ?_ (Below.mono (by assumption) ?hB)); (case hB => (first | omega | (simp; done) | (simp; omega)))))); done)); rintro en w6 ⟨rfl, hb6⟩; obtain ⟨hc6, hf6⟩ := bcell hb6; have hz6 := hb6.size; (try simp only [World.size_alloc, World.size_setCell, World.size_drew] at hz6)))); refine bodyPost_ret (v := .tuple #[(.agg #[.int .i64 (0), .int .i64 (0), .slice none 0 0]), .int .i64 1]) (by simp [results, Tryd.results32, go_sem, ↓IntWalk.iteOmega, *]) rfl ?_; exact ⟨none, 0, rfl, BS.nil' _, by (repeat (first | (with_reducible exact Below.refl _ _) | ((with_reducible refine Below.alloc ?_ ?hB _); (case hB => (first | omega | (simp; done) | (simp; omega)))) | ((with_reducible refine Below.setCell ?_ ?hB _); (case hB => (first | omega | (simp; done) | (simp; omega)))) | (with_reducible refine Below.drew ?_) | ((with_reducible refine below_ext_of ?_ ?hB); (case hB => (first | omega | (simp; done) | (simp; omega)))) | ((with_reducible refine Below.trans ?_ (Below.mono (by assumption) ?hB)); (case hB => (first | omega | (simp; done) | (simp; omega))))))⟩)
end Go.Proofs.YtinnaiofgbjicaaDoor
