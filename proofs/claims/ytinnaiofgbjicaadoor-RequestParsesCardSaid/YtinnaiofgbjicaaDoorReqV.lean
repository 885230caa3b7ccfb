/- The message of a request, both: joined; any operation. -/
import Derived.Test.YtinnaiofgbjicaaDoorReqS
import Derived.Test.YtinnaiofgbjicaaDoorTitD
import Derived.Test.YtinnaiofgbjicaaDoorTitH
namespace Go.Proofs.YtinnaiofgbjicaaDoor
open Go.RowKit Go.Proofs.YtinnaiofgbjicaaDoorW.PrintWords
set_option linter.unusedSimpArgs false
set_option linter.unusedVariables false
set_option maxRecDepth 1000000
def ArgAt (f : ByteArray) (l : List V8) (q : Q9) (i : Nat) : Prop := ((byN f i = 117 ∨ byN f i = 105) ∧ at8 l i = vI (if i = 0 then q.a else q.b)) ∨ (byN f i = 115 ∧ at8 l i = vS q.s) ∨ (byN f i = 114 ∧ at8 l i = vR q.x0 q.y0 q.x1 q.y1) ∨ (byN f i = 98 ∧ at8 l i = vB q.d)
theorem args_at {k : Nat} (hk : k < 19) (q : Q9) : ∀ i, i < (formQ k).size → ArgAt (formQ k) (argsQ k q) q i := by
  have h0 : ∀ (f : ByteArray) (l : List V8), f.size = 0 → ∀ i, i < f.size → ArgAt f l q i := fun f l hs i hi => by omega
  have h1 : ∀ f : ByteArray, f.size = 1 → (byN f 0 = 117 ∨ byN f 0 = 105) → ∀ i, i < f.size → ArgAt f [vI q.a] q i := fun f hs hb i hi => by
    obtain rfl : i = 0 := by omega
    exact .inl ⟨hb, rfl⟩
  have h2 : ∀ f : ByteArray, f.size = 2 → (byN f 0 = 117 ∨ byN f 0 = 105) → (byN f 1 = 117 ∨ byN f 1 = 105) → ∀ i, i < f.size → ArgAt f [vI q.a, vI q.b] q i := fun f hs hb hb1 i hi => by
    have : i = 0 ∨ i = 1 := by omega
    rcases this with rfl | rfl
    · exact .inl ⟨hb, rfl⟩
    · exact .inl ⟨hb1, rfl⟩
  have hr : ∀ f : ByteArray, f.size = 1 → byN f 0 = 114 → ∀ i, i < f.size → ArgAt f [vR q.x0 q.y0 q.x1 q.y1] q i := fun f hs hb i hi => by
    obtain rfl : i = 0 := by omega
    exact .inr (.inr (.inl ⟨hb, rfl⟩))
  have hst : ∀ f : ByteArray, f.size = 1 → byN f 0 = 115 → ∀ i, i < f.size → ArgAt f [vS q.s] q i := fun f hs hb i hi => by
    obtain rfl : i = 0 := by omega
    exact .inr (.inl ⟨hb, rfl⟩)
  have hrb : ∀ f : ByteArray, f.size = 2 → byN f 0 = 114 → byN f 1 = 98 → ∀ i, i < f.size → ArgAt f [vR q.x0 q.y0 q.x1 q.y1, vB q.d] q i := fun f hs hb hb1 i hi => by
    have : i = 0 ∨ i = 1 := by omega
    rcases this with rfl | rfl
    · exact .inr (.inr (.inl ⟨hb, rfl⟩))
    · exact .inr (.inr (.inr ⟨hb1, rfl⟩))
  rcases lt19 hk with rfl | rfl | rfl | rfl | rfl | rfl | rfl | rfl | rfl | rfl | rfl | rfl | rfl | rfl | rfl | rfl | rfl | rfl | rfl
  · exact h2 _ rfl (.inl rfl) (.inl rfl)
  · exact h0 _ _ rfl
  · exact hrb _ rfl rfl rfl
  · exact h0 _ _ rfl
  · exact h0 _ _ rfl
  · exact h1 _ rfl (.inl rfl)
  · exact hr _ rfl rfl
  · exact h2 _ rfl (.inr rfl) (.inr rfl)
  · exact h1 _ rfl (.inl rfl)
  · exact h0 _ _ rfl
  · exact h1 _ rfl (.inl rfl)
  · exact hr _ rfl rfl
  · exact hr _ rfl rfl
  · exact h1 _ rfl (.inl rfl)
  · exact hst _ rfl rfl
  · exact h1 _ rfl (.inl rfl)
  · exact h0 _ _ rfl
  · exact h2 _ rfl (.inr rfl) (.inr rfl)
  · exact h2 _ rfl (.inr rfl) (.inr rfl)
theorem ref_EncodeK (T : ByteArray → Bool) {k : Nat} (hk : k < 19) (q : Q9) (hop : q.op = k) (hq : q.Bd) (A : Option Addr) (c : Nat) (w : World) (hdc : q.d.length ≤ c) (hrd : ReadsInt w .u8 A q.d.length q.d) (hT : TitOK TitR T k q.id (packP (formQ k) (argsQ k q)).2) : Calls Tryd.prog 12 #[(.agg #[.int .i64 q.op, .int .i64 q.id, .int .i64 q.a, .int .i64 q.b, .int .i64 q.x0, .int .i64 q.y0, .int .i64 q.x1, .int .i64 q.y1, .string q.s, .slice A q.d.length c])] w (EncPost w (encK T k q)) := by
  have hf := form_small hk
  have hpl := packP_len (formQ k) (argsQ k q)
  have hpb := packP_byt (f := formQ k) (args_byt k hq)
  have hdb : Byt (decK T k q.id (packP (formQ k) (argsQ k q)).2).2.d := decK_byt T k q.id hpb
  rw [hop]
  refine ref_EncG k hk q (decK T k q.id (packP (formQ k) (argsQ k q)).2).2 (argsQ k q) (packP (formQ k) (argsQ k q)).1 (decK T k q.id (packP (formQ k) (argsQ k q)).2).1 (packP (formQ k) (argsQ k q)).2 A c w (args_len hk q) (args_at hk q) hdc hrd ?_ ?_ ?_ ?_
  · intro w A c h1 h2
    refine (ref_Pack _ A _ c w h1 (by omega) (args_ok k hq) h2).mono ?_
    rintro e w' ⟨A', n, c', he, hn, ⟨h1, h2, h3⟩, hr, hb⟩
    subst hn
    exact ⟨A', c', he, ⟨h1, h2, h3, hr, hpb⟩, hb⟩
  · intro A c w
    exact ref_MayM (k : Int) q.id A (packP (formQ k) (argsQ k q)).2.length c w (by omega)
  · intro w A c hs
    have := ref_DecodeO T (k : Int) q.id A _ c w hs (by omega) hT
    rw [decO_k T hk] at this
    exact this
  · intro w1 DA dc h1 hb
    have := ref_Same9 (decK T k q.id (packP (formQ k) (argsQ k q)).2).2 q DA A dc c w1 hdb hq.byt h1 (hrd.below hb)
    rw [hop] at this
    exact this
/-- The same of any operation. -/
def encO (T : ByteArray → Bool) (q : Q9) : Int × M3 := if 0 ≤ q.op ∧ q.op ≤ 18 then encK T q.op.toNat q else (12, ⟨0, 0, []⟩)
theorem encO_k (T : ByteArray → Bool) {k : Nat} (hk : k < 19) {q : Q9} (h : q.op = k) : encO T q = encK T k q := by
  unfold encO; rw [h, if_pos (by omega)]; rfl
def EncTit (P : ByteArray → Bool → Prop) (T : ByteArray → Bool) (q : Q9) : Prop := q.op = 14 → TitOK P T 14 q.id (packP (formQ 14) (argsQ 14 q)).2
theorem EncTit.k {P : ByteArray → Bool → Prop} {T : ByteArray → Bool} {q : Q9} (h : EncTit P T q) {k : Nat} (hop : q.op = k) : TitOK P T k q.id (packP (formQ k) (argsQ k q)).2 := fun h14 => by
  have hk : k = 14 := by omega
  subst hk
  exact h hop rfl
theorem enc_not2 (q : Q9) (h : ¬(0 ≤ q.op ∧ q.op ≤ 18)) (A : Option Addr) (c : Nat) (w : World) : Calls Tryd.prog 12 #[(.agg #[.int .i64 q.op, .int .i64 q.id, .int .i64 q.a, .int .i64 q.b, .int .i64 q.x0, .int .i64 q.y0, .int .i64 q.x1, .int .i64 q.y1, .string q.s, .slice A q.d.length c])] w (EncPost w (12, ⟨0, 0, []⟩)) := by
  have h' : q.op < 0 ∨ (0 ≤ q.op ∧ 18 < q.op) := by omega
  clear h
  rcases h' with h1 | ⟨h1, h2⟩
  all_goals
    go_enter Tryd.func12, Tryd.ntmps12
    go_wp2
    refine bodyPost_ret (v := .tuple #[(.agg #[.int .i64 (0), .int .i64 (0), .slice none 0 0]), .int .i64 12]) (by simp [results, Tryd.results12, go_sem, ↓IntWalk.iteOmega, *]) rfl ?_
    exact ⟨none, 0, rfl, BS.nil' _, by (repeat (first | (with_reducible exact Below.refl _ _) | ((with_reducible refine Below.alloc ?_ ?hB _); (case hB => (first | omega | (simp; done) | (simp; omega)))) | ((with_reducible refine Below.setCell ?_ ?hB _); (case hB => (first | omega | (simp; done) | (simp; omega)))) | (with_reducible refine Below.drew ?_) | ((with_reducible refine below_ext_of ?_ ?hB); (case hB => (first | omega | (simp; done) | (simp; omega)))) | ((with_reducible refine Below.trans ?_ (Below.mono (by assumption) ?hB)); (case hB => (first | omega | (simp; done) | (simp; omega))))))⟩
theorem ref_EncodeO (T : ByteArray → Bool) (q : Q9) (hq : q.Bd) (A : Option Addr) (c : Nat) (w : World) (hdc : q.d.length ≤ c) (hrd : ReadsInt w .u8 A q.d.length q.d) (hT : EncTit TitR T q) : Calls Tryd.prog 12 #[(.agg #[.int .i64 q.op, .int .i64 q.id, .int .i64 q.a, .int .i64 q.b, .int .i64 q.x0, .int .i64 q.y0, .int .i64 q.x1, .int .i64 q.y1, .string q.s, .slice A q.d.length c])] w (EncPost w (encO T q)) := by
  by_cases h : 0 ≤ q.op ∧ q.op ≤ 18
  · obtain ⟨k, hk⟩ := Int.eq_ofNat_of_zero_le h.1
    rw [encO_k T (by omega) hk]
    exact ref_EncodeK T (by omega) q hk hq A c w hdc hrd (hT.k hk)
  · have : encO T q = (12, ⟨0, 0, []⟩) := by unfold encO; rw [if_neg h]
    rw [this]
    exact enc_not2 q h A c w
end Go.Proofs.YtinnaiofgbjicaaDoor
namespace Go.Proofs.YtinnaiofgbjicaaDoor
open Go.RowKit Go.Proofs.YtinnaiofgbjicaaDoorW.PrintWords
set_option linter.unusedSimpArgs false
set_option linter.unusedVariables false
set_option maxRecDepth 1000000
theorem titW {w : World} (hT : Lib.Utf8Tabs 2 3 w) {s : ByteArray} (hs : s.size ≤ 1000000) : TitW w s (mayT s) := fun w1 hb => t_May s w1 (Utf8Tabs_below hT hb) hs
theorem titR {s : ByteArray} (hs : s.size ≤ 1000000) : TitR s (mayT s) := fun w => r6_May s hs w
theorem strNums_size (l : List Int) : (strOfNums l).size = l.length := by simp [strOfNums, ByteArray.size]
theorem oneP_sz {c : Int} {b r : List Int} {x : V8} (h : oneP c b = some (x, r)) : x.s.size ≤ b.length ∧ r.length ≤ b.length := by
  unfold oneP at h
  split at h
  · split at h
    · cases h
    · injection h with h; injection h with h1 h2; subst h1; subst h2; exact ⟨Nat.zero_le _, by simp⟩
  · split at h
    · split at h
      · cases h
      · injection h with h; injection h with h1 h2; subst h1; subst h2; exact ⟨Nat.zero_le _, by simp⟩
    · split at h
      · split at h
        · cases h
        · injection h with h; injection h with h1 h2; subst h1; subst h2
          refine ⟨?_, by simp⟩
          show (strOfNums _).size ≤ _
          rw [strNums_size]; simp; omega
      · split at h
        · split at h
          · cases h
          · injection h with h; injection h with h1 h2; subst h1; subst h2; exact ⟨Nat.zero_le _, by simp⟩
        · injection h with h; injection h with h1 h2; subst h1; subst h2; exact ⟨Nat.zero_le _, by simp⟩
theorem unpackFrom_sz {f : ByteArray} {b : List Int} : ∀ (k : Nat) (l : List V8) (r : List Int), unpackFrom f b k = some (l, r) → r.length ≤ b.length ∧ ∀ x ∈ l, x.s.size ≤ b.length
  | 0, l, r, h => by
    simp only [unpackFrom, Option.some.injEq, Prod.mk.injEq] at h
    obtain ⟨rfl, rfl⟩ := h
    exact ⟨Nat.le_refl _, fun x hx => by cases hx⟩
  | k + 1, l, r, h => by
    simp only [unpackFrom] at h
    split at h
    · cases h
    · split at h
      · cases h
      · injection h with h; injection h with h1 h2; subst h1; subst h2
        obtain ⟨h3, h4⟩ := unpackFrom_sz k _ _ ‹_›
        obtain ⟨h5, h6⟩ := oneP_sz ‹_›
        exact ⟨by omega, fun x hx => (List.mem_append.1 hx).elim (h4 x) (fun h => by rw [List.mem_singleton.1 h]; omega)⟩
theorem unpackP_sz (f : ByteArray) (b : List Int) (i : Nat) : (at8 (unpackP f b).2 i).s.size ≤ b.length := by
  have key : ∀ x ∈ (unpackP f b).2, x.s.size ≤ b.length := by
    unfold unpackP
    split
    · split
      · intro x hx; cases hx
      · split
        · exact (unpackFrom_sz _ _ _ ‹_›).2
        · intro x hx; cases hx
    · intro x hx; cases hx
  by_cases hi : i < (unpackP f b).2.length
  · exact key _ (at8_mem hi)
  · unfold at8; rw [List.getD_eq_getElem?_getD, List.getElem?_eq_none (by omega)]; exact Nat.zero_le _
theorem fold_sz {l : List V8} {n : Nat} (h : ∀ i, (at8 l i).s.size ≤ n) (k : Nat) (id : Int) : ∀ j, (foldQ (startQ k id) l j).s.size ≤ n
  | 0 => Nat.zero_le _
  | j + 1 => by
    have ih := fold_sz h k id j
    simp only [foldQ]
    unfold stepQ
    split
    · split <;> exact ih
    · split
      · exact h j
      · split <;> exact ih
theorem qOf_sz (k : Nat) (id : Int) (b : List Int) : (qOf k id b).s.size ≤ b.length := fold_sz (unpackP_sz _ b) k id _
theorem tit1 {w : World} (hT : Lib.Utf8Tabs 2 3 w) (op id : Int) {b : List Int} (hn : b.length ≤ 1000000) : TitOK (TitW w) mayT op id b := fun _ _ => titW hT (by have := qOf_sz 14 id b; omega)
theorem tit2 (op id : Int) {b : List Int} (hn : b.length ≤ 1000000) : TitOK TitR mayT op id b := fun _ _ => titR (by have := qOf_sz 14 id b; omega)
theorem etit2 (q : Q9) : EncTit TitR mayT q := fun _ => tit2 _ _ (by have := packP_len (formQ 14) (argsQ 14 q); omega)
/-- Both, of a message and of a request, the library's tables lying. -/
theorem q_Decode {w : World} (hT : Lib.Utf8Tabs 2 3 w) (op id : Int) (A : Option Addr) (b : List Int) (c : Nat) (hs : BS w A b c) (hn : b.length ≤ 1000000) : Calls Tryd.prog 15 #[(.agg #[.int .i64 (op), .int .i64 (id), .slice (A) (b.length) (c)])] w (DecPost w (decO mayT op id b)) := req_DecodeO mayT op id A b c w hs hn (tit1 hT op id hn)
theorem r_Decode (op id : Int) (A : Option Addr) (b : List Int) (c : Nat) (w : World) (hs : BS w A b c) (hn : b.length ≤ 1000000) : Calls Tryd.prog 16 #[(.agg #[.int .i64 (op), .int .i64 (id), .slice (A) (b.length) (c)])] w (DecPost w (decO mayT op id b)) := ref_DecodeO mayT op id A b c w hs hn (tit2 op id hn)
theorem r_Encode (q : Q9) (hq : q.Bd) (A : Option Addr) (c : Nat) (w : World) (hdc : q.d.length ≤ c) (hrd : ReadsInt w .u8 A q.d.length q.d) : Calls Tryd.prog 12 #[(.agg #[.int .i64 q.op, .int .i64 q.id, .int .i64 q.a, .int .i64 q.b, .int .i64 q.x0, .int .i64 q.y0, .int .i64 q.x1, .int .i64 q.y1, .string q.s, .slice A q.d.length c])] w (EncPost w (encO mayT q)) := ref_EncodeO mayT q hq A c w hdc hrd (etit2 q)
end Go.Proofs.YtinnaiofgbjicaaDoor
namespace Go.Proofs.YtinnaiofgbjicaaDoor
open Go.RowKit Go.Proofs.YtinnaiofgbjicaaDoorW.PrintWords
set_option linter.unusedSimpArgs false
set_option linter.unusedVariables false
set_option maxRecDepth 1000000
end Go.Proofs.YtinnaiofgbjicaaDoor
