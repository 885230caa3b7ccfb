/- Plain facts: a form that is made of any text is one; arguments made such as fit have bytes; and these are the same just if the arguments are. -/
import Derived.Test.YtinnaiofgbjicaaDoorArgPack
namespace Go.Proofs.YtinnaiofgbjicaaDoor
open Go.RowKit Go.Proofs.YtinnaiofgbjicaaDoorW.PrintWords
set_option linter.unusedSimpArgs false
set_option linter.unusedVariables false
set_option maxRecDepth 1000000
theorem byN_list (s : ByteArray) (i : Nat) : byN s i = ((s.data.toList[i]?).map (fun b => (b.toNat : Int))).getD 0 := by
  unfold byN
  by_cases h : i < s.size
  · rw [dif_pos h]
    have hl : i < s.data.toList.length := by rw [Array.length_toList]; exact h
    rw [List.getElem?_eq_getElem hl]; rfl
  · rw [dif_neg h]
    have hl : s.data.toList.length ≤ i := by rw [Array.length_toList]; exact Nat.le_of_not_lt h
    rw [List.getElem?_eq_none hl]; rfl
theorem byN_append (a b : ByteArray) (i : Nat) : byN (a ++ b) i = if i < a.size then byN a i else byN b (i - a.size) := by
  have hs : a.data.toList.length = a.size := by rw [Array.length_toList]; rfl
  rw [byN_list, byN_list, byN_list, ByteArray.data_append, Array.toList_append]
  split
  · rw [List.getElem?_append_left (by omega)]
  · rw [List.getElem?_append_right (by omega), hs]
def lcd (c : Nat) : Int := if c = 0 then 105 else if c = 1 then 117 else if c = 2 then 115 else if c = 3 then 114 else 98
theorem ltS_byte (c : Nat) (h : c < 5) : byN (ltS c) 0 = lcd c := by
  have : ∀ c : Fin 5, byN (ltS c.val) 0 = lcd c.val := by decide +kernel
  exact this ⟨c, h⟩
theorem letters_byte (s : ByteArray) (k i : Nat) (h : i < k) : byN (lettersS s k) i = lcd (lcode s i) := by
  induction k with
  | zero => omega
  | succ k ih =>
    rw [lettersS_succ, byN_append, lettersS_size]
    split
    · exact ih ‹_›
    · obtain rfl : i = k := by omega
      rw [Nat.sub_self]; exact ltS_byte _ (lcode_lt s i)
theorem lcd_let (c : Nat) : letC (lcd c) := by unfold lcd letC; split <;> (try split) <;> (try split) <;> (try split) <;> omega
theorem letters_form (s : ByteArray) : formP (lettersP s) = true := by
  unfold formP
  rw [decide_eq_true_iff]
  refine ⟨fun i hi => ?_, lettersP_size s⟩
  unfold lettersP at hi ⊢
  rw [lettersS_size] at hi
  refine ⟨?_, fun h98 => ?_⟩
  · rw [letters_byte s _ i hi]; exact lcd_let _
  · rw [letters_byte s _ i hi] at h98
    rw [lettersS_size]
    have h4 : lcode s i = 4 := by
      have := lcode_lt s i
      unfold lcd at h98
      split at h98 <;> (try split at h98) <;> (try split at h98) <;> (try split at h98) <;> omega
    unfold lcode at h4
    split at h4 <;> omega
theorem letters_let (s : ByteArray) (i : Nat) (h : i < (lettersP s).size) : letC (byN (lettersP s) i) := by
  unfold lettersP at h ⊢
  rw [lettersS_size] at h
  rw [letters_byte s _ i h]; exact lcd_let _
theorem putB0 {x : V8} (h : x.kind = 0) : putB x = b4 x.n := by unfold putB; rw [if_pos h]
theorem putB1 {x : V8} (h : x.kind = 1) : putB x = strB x.s := by unfold putB; rw [if_neg (by omega), if_pos h]
theorem putB2 {x : V8} (h : x.kind = 2) : putB x = rectB x.x0 x.y0 x.x1 x.y1 := by unfold putB; rw [if_neg (by omega), if_neg (by omega), if_pos h]
theorem putB3 {x : V8} (h : x.kind = 3) : putB x = x.b := by unfold putB; rw [if_neg (by omega), if_neg (by omega), if_neg (by omega)]
theorem goodX_put (c : Int) (x : V8) (h : letC c) : putOk c (goodX c x) = true ∧ (putB (goodX c x)).length ≤ 21 := by
  have t := tm_bd x.n; have t0 := tm_bd x.x0; have t1 := tm_bd x.y0; have t2 := tm_bd x.x1; have t3 := tm_bd x.y1
  have e1 : (x.s.extract 0 (min x.s.size 20)).size ≤ 20 := by rw [ByteArray.size_extract]; omega
  have e2 : (x.b.take (min x.b.length 20)).length ≤ 20 := by simp; omega
  unfold letC at h
  unfold goodX
  split
  · subst c
    refine ⟨?_, ?_⟩
    · unfold putOk fitI; rw [decide_eq_true_iff]; refine .inl ⟨rfl, ?_⟩; rw [decide_eq_true_iff]; left; exact ⟨rfl, by show _ ≤ tm x.n; omega, by show tm x.n < _; omega⟩
    · rw [putB0 rfl]; simp [b4]
  · split
    · subst c
      refine ⟨?_, ?_⟩
      · unfold putOk fitI; rw [decide_eq_true_iff]; refine .inl ⟨rfl, ?_⟩; rw [decide_eq_true_iff]; right; exact ⟨rfl, by show _ ≤ max (tm x.n) (-tm x.n); omega, by show max (tm x.n) (-tm x.n) < _; omega⟩
      · rw [putB0 rfl]; simp [b4]
    · split
      · subst c
        refine ⟨?_, ?_⟩
        · unfold putOk fitS; rw [decide_eq_true_iff]; refine .inr (.inl ⟨rfl, ?_⟩); rw [decide_eq_true_iff]; exact ⟨rfl, by show (x.s.extract 0 (min x.s.size 20)).size ≤ _; omega⟩
        · rw [putB1 rfl]; simp only [strB, List.length_cons, bytesOf_length]; omega
      · split
        · subst c
          refine ⟨?_, ?_⟩
          · unfold putOk fitR; rw [decide_eq_true_iff]; refine .inr (.inr (.inl ⟨rfl, ?_⟩)); rw [decide_eq_true_iff]
            exact ⟨rfl, by show smI (tm x.x0); unfold smI; omega, by show smI (tm x.y0); unfold smI; omega, by show smI (tm x.x1); unfold smI; omega, by show smI (tm x.y1); unfold smI; omega⟩
          · rw [putB2 rfl]; simp [rectB, b4]
        · have hc : c = 98 := by omega
          subst hc
          refine ⟨?_, ?_⟩
          · unfold putOk fitB; rw [decide_eq_true_iff]; refine .inr (.inr (.inr ⟨rfl, ?_⟩)); rw [decide_eq_true_iff]; exact ⟨rfl, by show (x.b.take (min x.b.length 20)).length ≤ _; omega⟩
          · rw [putB3 rfl]; show (x.b.take (min x.b.length 20)).length ≤ _; omega
/-- The bytes of the first k of a list, one behind the other. -/
def catB (l : List V8) : Nat → List Int
  | 0 => []
  | k + 1 => catB l k ++ putB (at8 l k)
theorem packFrom_cat (f : ByteArray) (l : List V8) (k : Nat) (h : ∀ i, i < k → putOk (byN f i) (at8 l i) = true) : packFrom f l k = some (catB l k) := by
  induction k with
  | zero => rfl
  | succ k ih =>
    have h1 := ih (fun i hi => h i (by omega))
    rw [packFrom_yes h1 (h k (by omega))]; rfl
theorem catB_len (l : List V8) (k : Nat) (m : Nat) (h : ∀ i, i < k → (putB (at8 l i)).length ≤ m) : (catB l k).length ≤ k * m := by
  induction k with
  | zero => simp [catB]
  | succ k ih =>
    have h1 := ih (fun i hi => h i (by omega))
    have h2 := h k (by omega)
    simp only [catB, List.length_append, Nat.succ_mul]; omega
theorem pack_ok {f : ByteArray} {l : List V8} (hf : formP f = true) (hs : f.size = l.length) (h : ∀ i, i < l.length → putOk (byN f i) (at8 l i) = true ∧ (putB (at8 l i)).length ≤ 21) : packP f l = (0, catB l l.length) := by
  have h8 : f.size ≤ 8 := by unfold formP at hf; exact (of_decide_eq_true hf).2
  have hl := catB_len l l.length 21 (fun i hi => (h i hi).2)
  have hm : l.length * 21 ≤ 8 * 21 := Nat.mul_le_mul_right _ (by omega)
  unfold packP
  rw [if_pos ⟨hf, hs⟩, packFrom_cat f l l.length (fun i hi => (h i hi).1)]
  simp only
  rw [if_pos (by omega)]
theorem pack_good (s : ByteArray) (l : List V8) : packP (lettersP s) (goodL (lettersP s) l) = (0, catB (goodL (lettersP s) l) (lettersP s).size) := by
  have := pack_ok (f := lettersP s) (l := goodL (lettersP s) l) (letters_form s) (goodL_len _ _).symm (fun i hi => by
    rw [goodL_len] at hi
    rw [at8_good _ _ i hi]
    exact goodX_put _ _ (letters_let s i hi))
  rw [this, goodL_len]
theorem strOfNums_append (a b : List Int) : strOfNums (a ++ b) = strOfNums a ++ strOfNums b := by
  apply ByteArray.ext
  rw [ByteArray.data_append]
  simp [strOfNums]
theorem strOfNums_inj {a b : List Int} (ha : ∀ n ∈ a, 0 ≤ n ∧ n ≤ 255) (hb : ∀ n ∈ b, 0 ≤ n ∧ n ≤ 255) (h : strOfNums a = strOfNums b) : a = b := by
  have h' : (a.map fun n => UInt8.ofNat n.toNat) = b.map fun n => UInt8.ofNat n.toNat := by
    have := congrArg (fun s : ByteArray => s.data.toList) h
    simpa [strOfNums] using this
  have hl : a.length = b.length := by simpa using congrArg List.length h'
  apply List.ext_getElem hl
  intro i h1 h2
  have e := congrArg (fun l => l[i]?) h'
  simp only [List.getElem?_map, List.getElem?_eq_getElem h1, List.getElem?_eq_getElem h2, Option.map_some, Option.some.injEq] at e
  have b1 := ha _ (List.getElem_mem h1)
  have b2 := hb _ (List.getElem_mem h2)
  have e' := congrArg UInt8.toNat e
  simp only [UInt8.toNat_ofNat'] at e'
  omega
theorem b4_bytes (n : Int) : ∀ m ∈ b4 n, 0 ≤ m ∧ m ≤ 255 := by
  intro m hm
  simp only [b4, List.mem_cons, List.not_mem_nil, or_false] at hm
  rcases hm with rfl | rfl | rfl | rfl <;> omega
theorem b4_inj {n m : Int} (hn : -2147483648 ≤ n ∧ n < 2147483648) (hm : -2147483648 ≤ m ∧ m < 2147483648) (h : b4 n = b4 m) : n = m := by
  simp only [b4, List.cons.injEq, and_true] at h
  omega
/-- Two lists that part at one place at most, there in four bytes: their bytes are the same just if these are. -/
theorem catB_part (x y : List V8) (k n : Nat) (hk : k < n) (h : ∀ i, i ≠ k → at8 x i = at8 y i) : ∃ A B, catB x n = A ++ putB (at8 x k) ++ B ∧ catB y n = A ++ putB (at8 y k) ++ B := by
  induction n with
  | zero => omega
  | succ n ih =>
    by_cases e : k = n
    · subst e
      have hs : ∀ m, m ≤ k → catB x m = catB y m := by
        intro m hm
        induction m with
        | zero => rfl
        | succ m ihm => simp only [catB, ihm (by omega), h m (by omega)]
      exact ⟨catB x k, [], by simp [catB], by simp [catB, hs k (Nat.le_refl _)]⟩
    · obtain ⟨A, B, h1, h2⟩ := ih (by omega)
      refine ⟨A, B ++ putB (at8 x n), ?_, ?_⟩
      · simp only [catB, h1, List.append_assoc]
      · simp only [catB, h2, h n (by omega), List.append_assoc]
theorem cat_same (x y : List V8) (k n : Nat) (hk : k < n) (h : ∀ i, i ≠ k → at8 x i = at8 y i) (nx ny : Int) (hx : putB (at8 x k) = b4 nx) (hy : putB (at8 y k) = b4 ny) (bx : -2147483648 ≤ nx ∧ nx < 2147483648) (by_ : -2147483648 ≤ ny ∧ ny < 2147483648) :
    strOfNums (catB x n) = strOfNums (catB y n) ↔ nx = ny := by
  obtain ⟨A, B, h1, h2⟩ := catB_part x y k n hk h
  rw [h1, h2, hx, hy]
  refine ⟨fun e => ?_, fun e => by rw [e]⟩
  rw [strOfNums_append, strOfNums_append, strOfNums_append, strOfNums_append] at e
  have e1 := congrArg (fun s : ByteArray => s.data.toList) e
  simp only [ByteArray.data_append, Array.toList_append, List.append_assoc] at e1
  have e2 := List.append_cancel_left e1
  have e3 := List.append_cancel_right e2
  have e4 : strOfNums (b4 nx) = strOfNums (b4 ny) := by apply ByteArray.ext; exact Array.ext' e3
  exact b4_inj bx by_ (strOfNums_inj (b4_bytes nx) (b4_bytes ny) e4)
end Go.Proofs.YtinnaiofgbjicaaDoor
namespace Go.Proofs.YtinnaiofgbjicaaDoor
open Go.RowKit Go.Proofs.YtinnaiofgbjicaaDoorW.PrintWords
set_option linter.unusedSimpArgs false
set_option linter.unusedVariables false
set_option maxRecDepth 1000000
theorem eqRectG (d : Nat) (w : World) (x0 x1 x2 x3 y0 y1 y2 y3 : Int) :
    (Op.equalIn (d + 2) 26 (.agg #[.int .i64 (x0), .int .i64 (x1), .int .i64 (x2), .int .i64 (x3)]) (.agg #[.int .i64 (y0), .int .i64 (y1), .int .i64 (y2), .int .i64 (y3)])).run Tryd.prog w = .ok (x0 == y0 && (x1 == y1 && (x2 == y2 && (x3 == y3 && true)))) w := by
  refine eqA_of Tryd.underlying26 (by kernel_rfl) ?_
  refine eqf_cons (by rfl) (by go_simp; rfl) (by go_simp; rfl) (by go_simp) ?_
  refine eqf_cons (by rfl) (by go_simp; rfl) (by go_simp; rfl) (by go_simp) ?_
  refine eqf_cons (by rfl) (by go_simp; rfl) (by go_simp; rfl) (by go_simp) ?_
  refine eqf_cons (by rfl) (by go_simp; rfl) (by go_simp; rfl) (by go_simp) ?_
  exact eqf_nil
theorem eqRectS (d : Nat) (w : World) (x0 x1 x2 x3 : Int) : (Op.equalIn (d + 2) 26 (.agg #[.int .i64 (x0), .int .i64 (x1), .int .i64 (x2), .int .i64 (x3)]) (.agg #[.int .i64 (x0), .int .i64 (x1), .int .i64 (x2), .int .i64 (x3)])).run Tryd.prog w = .ok true w := by
  have := eqRectG d w x0 x1 x2 x3 x0 x1 x2 x3
  rw [this]; simp
attribute [local go_sem high] eqRectS
theorem flatV_set (L : List VH) (k j : Nat) (u : Value) (h' : VH) (hk : k < L.length) (hj : j < 8) (hc : h'.cells = L[k].cells.set j u) : (flatV L).set (k * 8 + j) u = flatV (L.set k h') := by
  induction L generalizing k with
  | nil => simp at hk
  | cons h L ih =>
    have hl : h.cells.length = 8 := rfl
    show (h.cells ++ flatV L).set (k * 8 + j) u = _
    cases k with
    | zero =>
      simp only [Nat.zero_mul, Nat.zero_add, List.set_cons_zero]
      rw [List.set_append_left _ _ (by omega)]
      simp only [List.getElem_cons_zero] at hc
      rw [← hc]; rfl
    | succ k =>
      rw [List.set_append_right _ _ (by omega), show (k + 1) * 8 + j - h.cells.length = k * 8 + j by omega]
      simp only [List.getElem_cons_succ] at hc
      rw [ih k (by simpa using hk) hc]
      rfl
/-- A row of the call's own whose block is known, with each argument's place. -/
def OwnL (wq w : World) (base g c : Nat) (L : List VH) : Prop := w.ownsRow base 81 8 (.slice (some ⟨g, 0, none⟩) L.length c) L.length (flatV L) ∧ ∀ h ∈ L, h.reads wq
theorem OwnL.get {wq w : World} {base g c : Nat} {L : List VH} (h : OwnL wq w base g c L) (k j : Nat) (hk : k < L.length) (hj : j < 8) : w.cell? ⟨g, k * 8 + j, none⟩ = (L[k].cells)[j]? := by
  have : k * 8 + j < L.length * 8 := by omega
  rw [h.1.cellAt _ this, flatV_get L k j hk hj]
theorem OwnL.free {wq w : World} {base g c : Nat} {L : List VH} (h : OwnL wq w base g c L) (j : Nat) : w.frozen? ⟨g, j, none⟩ = false := h.1.frozenAt j
theorem OwnL.set {wq w : World} {base g c : Nat} {L : List VH} (h : OwnL wq w base g c L) (k j : Nat) (u : Value) (h' : VH) (hk : k < L.length) (hj : j < 8) (hc : h'.cells = L[k].cells.set j u) (hr : h'.reads wq) : OwnL wq (w.setCell ⟨g, k * 8 + j, none⟩ u) base g c (L.set k h') := by
  have := (h.1.stored (k * 8 + j) u).1
  rw [flatV_set L k j u h' hk hj hc] at this
  refine ⟨by rw [List.length_set]; exact this, fun q hq => ?_⟩
  rcases List.mem_or_eq_of_mem_set hq with hq | rfl
  · exact h.2 q hq
  · exact hr
theorem OwnL.ge {wq w : World} {base g c : Nat} {L : List VH} (h : OwnL wq w base g c L) : base ≤ g ∧ g < w.heap.size := h.1.lt g rfl
theorem OwnL.row {wq w : World} {base g c : Nat} {L : List VH} (h : OwnL wq w base g c L) (hb : Below wq.heap.size wq w) : VRow w (some ⟨g, 0, none⟩) (L.map (·.x)) := by
  have ho : OwnV wq w base (.slice (some ⟨g, 0, none⟩) L.length c) (L.map (·.x)) := ⟨L, rfl, h.1, h.2⟩
  obtain ⟨A, c', e, _, hr⟩ := ho.row hb
  injection e with e1 e2 e3
  rw [e1]; exact hr
theorem OwnL.of {wq w : World} {base : Nat} {v : Value} {l : List V8} (h : OwnV wq w base v l) (hn : 0 < l.length) : ∃ g c L, v = .slice (some ⟨g, 0, none⟩) l.length c ∧ l.length ≤ c ∧ L.map VH.x = l ∧ OwnL wq w base g c L := by
  obtain ⟨L, hL, h1, h2⟩ := h
  have hl : L.length = l.length := by rw [← hL]; simp
  obtain ⟨g, c, rfl, _, _⟩ := h1.form (by omega)
  have := own_le h1
  rw [hl] at this
  exact ⟨g, c, L, by rw [hl], this, hL, by rw [hl] at h1; rw [← hl] at h1; exact ⟨h1, h2⟩⟩
end Go.Proofs.YtinnaiofgbjicaaDoor
namespace Go.Proofs.YtinnaiofgbjicaaDoor
open Go.RowKit Go.Proofs.YtinnaiofgbjicaaDoorW.PrintWords
set_option linter.unusedSimpArgs false
set_option linter.unusedVariables false
set_option maxRecDepth 1000000
/-- A row of the call's own, its block and places known where it isn't empty. -/
def GoodO (w : World) (f : ByteArray) (l : List V8) (e : Ending) (w' : World) : Prop := ∃ v, e = .returned v ∧ OwnV w w' w.heap.size v (goodL f l) ∧ Below w.heap.size w w'
def PackOk (w : World) (b : List Int) (e : Ending) (w' : World) : Prop := ∃ A c, e = .returned (.tuple #[.slice A b.length c, .int .i64 0]) ∧ ReadsInt w' .u8 A b.length b ∧ Below w.heap.size w w'
theorem args_PackOk (f : ByteArray) (A : Option Addr) (l : List V8) (c : Nat) (w : World) (b : List Int) (hb : packP f l = (0, b)) (hc : l.length ≤ c) (hz : f.size ≤ 140737488351232) (hok : AllOk l) (hr : AnyRow w A l) : Calls Tryd.prog 58 #[.string f, .slice A l.length c] w (PackOk w b) := by
  refine (args_Pack f A l c w hc hz hok hr).mono ?_
  rw [hb]
  rintro e w' ⟨A', n, c', rfl, hn, _, hr', hb'⟩
  simp only at hn hr'
  subst hn
  exact ⟨A', c', rfl, hr', hb'⟩
theorem str_beq (a b : ByteArray) (v : Bool) (h : decide (a = b) = v) : (a.toList == b.toList) = v := by
  by_cases e : a = b
  · subst e
    rw [← h, decide_eq_true rfl]; simp
  · rw [← h, decide_eq_false e, ByteArray.toList_eq, ByteArray.toList_eq, beq_eq_false_iff_ne]
    intro h'
    exact e (ByteArray.ext (Array.ext' h'))
theorem OwnL.set2 {wq w : World} {base g c k : Nat} {L : List VH} {h1 : VH} (h : OwnL wq w base g c (L.set k h1)) (j : Nat) (u : Value) (h' : VH) (hk : k < L.length) (hj : j < 8) (hc : h'.cells = h1.cells.set j u) (hr : h'.reads wq) : OwnL wq (w.setCell ⟨g, k * 8 + j, none⟩ u) base g c (L.set k h') := by
  have := h.set k j u h' (by rw [List.length_set]; exact hk) hj (by rw [List.getElem_set_self]; exact hc) hr
  rwa [List.set_set] at this
theorem OwnL.copy {wq w : World} {base g c k : Nat} {L : List VH} {y : VH} (h : OwnL wq w base g c (L.set k y)) (x : VH) (hk : k < L.length) (hy : y.reads wq) (hx : x.reads wq) :
    OwnL wq ((((((((w.setCell ⟨g, k * 8, none⟩ (.int .i64 x.x.kind)).setCell ⟨g, k * 8 + 1, none⟩ (.int .i64 x.x.n)).setCell ⟨g, k * 8 + 2, none⟩ (.string x.x.s)).setCell ⟨g, k * 8 + 3, none⟩ (.int .i64 x.x.x0)).setCell ⟨g, k * 8 + 4, none⟩ (.int .i64 x.x.y0)).setCell ⟨g, k * 8 + 5, none⟩ (.int .i64 x.x.x1)).setCell ⟨g, k * 8 + 6, none⟩ (.int .i64 x.x.y1)).setCell ⟨g, k * 8 + 7, none⟩ (.slice x.A x.x.b.length x.m)) base g c (L.set k x) := by
  obtain ⟨⟨yk, yn, ys, y0, y1, y2, y3, yb⟩, yA, ym⟩ := y
  obtain ⟨⟨xk, xn, xs, x0, x1, x2, x3, xb⟩, xA, xm⟩ := x
  have a0 := h.set2 0 (.int .i64 xk) ⟨⟨xk, yn, ys, y0, y1, y2, y3, yb⟩, yA, ym⟩ hk (by omega) rfl hy
  have a1 := a0.set2 1 (.int .i64 xn) ⟨⟨xk, xn, ys, y0, y1, y2, y3, yb⟩, yA, ym⟩ hk (by omega) rfl hy
  have a2 := a1.set2 2 (.string xs) ⟨⟨xk, xn, xs, y0, y1, y2, y3, yb⟩, yA, ym⟩ hk (by omega) rfl hy
  have a3 := a2.set2 3 (.int .i64 x0) ⟨⟨xk, xn, xs, x0, y1, y2, y3, yb⟩, yA, ym⟩ hk (by omega) rfl hy
  have a4 := a3.set2 4 (.int .i64 x1) ⟨⟨xk, xn, xs, x0, x1, y2, y3, yb⟩, yA, ym⟩ hk (by omega) rfl hy
  have a5 := a4.set2 5 (.int .i64 x2) ⟨⟨xk, xn, xs, x0, x1, x2, y3, yb⟩, yA, ym⟩ hk (by omega) rfl hy
  have a6 := a5.set2 6 (.int .i64 x3) ⟨⟨xk, xn, xs, x0, x1, x2, x3, yb⟩, yA, ym⟩ hk (by omega) rfl hy
  exact a6.set2 7 (.slice xA xb.length xm) ⟨⟨xk, xn, xs, x0, x1, x2, x3, xb⟩, xA, xm⟩ hk (by omega) rfl hx
theorem OwnL.self {wq w : World} {base g c k : Nat} {L : List VH} (h : OwnL wq w base g c L) (hk : k < L.length) : OwnL wq w base g c (L.set k L[k]) := by rw [List.set_getElem_self]; exact h
theorem OwnL.drew {wq w : World} {base g c : Nat} {L : List VH} (h : OwnL wq w base g c L) : OwnL wq w.drew base g c L := h
def setN (l : List V8) (k : Nat) (m : Int) : List V8 := l.set k { at8 l k with n := m }
theorem setN_len (l : List V8) (k : Nat) (m : Int) : (setN l k m).length = l.length := by simp [setN]
theorem setN_at (l : List V8) (k : Nat) (m : Int) (h : k < l.length) : at8 (setN l k m) k = { at8 l k with n := m } := by
  have h' : k < (setN l k m).length := by rw [setN_len]; exact h
  show (setN l k m).getD k v0 = _
  rw [List.getD_eq_getElem?_getD, List.getElem?_eq_getElem h']
  simp [setN]
theorem setN_ne (l : List V8) (k i : Nat) (m : Int) (h : i ≠ k) : at8 (setN l k m) i = at8 l i := by
  show (setN l k m).getD i v0 = l.getD i v0
  rw [List.getD_eq_getElem?_getD, List.getD_eq_getElem?_getD]
  simp only [setN]
  rw [List.getElem?_set_ne (Ne.symm h)]
theorem setN_own (l : List V8) (k : Nat) (h : k < l.length) : setN l k (at8 l k).n = l := by
  unfold setN
  have e : at8 l k = l[k] := by unfold at8; rw [List.getD_eq_getElem?_getD, List.getElem?_eq_getElem h]; rfl
  have : ({ at8 l k with n := (at8 l k).n } : V8) = l[k] := by rw [e]
  rw [this, List.set_getElem_self]
/-- What may stand in the place of a number, by the letter. -/
def MayN (c m own : Int) : Prop := (c = 105 ∧ -2147483648 < m ∧ m < 2147483648) ∨ (c = 117 ∧ 0 ≤ m ∧ m < 2147483648) ∨ (¬ c = 105 ∧ ¬ c = 117 ∧ m = own)
theorem goodX_n {c : Int} {x : V8} (h : c = 105 ∨ c = 117) : (goodX c x).kind = 0 ∧ -2147483648 ≤ (goodX c x).n ∧ (goodX c x).n < 2147483648 := by
  have t := tm_bd x.n
  unfold goodX
  rcases h with rfl | rfl
  · rw [if_pos rfl]; exact ⟨rfl, by show _ ≤ tm x.n; omega, by show tm x.n < _; omega⟩
  · rw [if_neg (by omega), if_pos rfl]; exact ⟨rfl, by show _ ≤ max (tm x.n) (-tm x.n); omega, by show max (tm x.n) (-tm x.n) < _; omega⟩
structure ApartP (g : ByteArray) (l : List V8) (k : Nat) (m : Int) : Prop where
  px : packP g l = (0, catB l l.length)
  py : packP g (setN l k m) = (0, catB (setN l k m) l.length)
  eq : strOfNums (catB l l.length) = strOfNums (catB (setN l k m) l.length) ↔ (at8 l k).n = m
  ok : AllOk (setN l k m)
theorem apart_pure (f : ByteArray) (l1 : List V8) (k : Nat) (m : Int) (g : ByteArray) (hg : g = lettersP f) (hk : k < g.size) (hok : AllOk (goodL g l1)) (hm : MayN (byN g k) m (at8 (goodL g l1) k).n) : ApartP g (goodL g l1) k m := by
  have hn := goodL_len g l1
  have hx : ∀ i, i < g.size → putOk (byN g i) (at8 (goodL g l1) i) = true ∧ (putB (at8 (goodL g l1) i)).length ≤ 21 := fun i hi => by
    rw [at8_good g l1 i hi]; exact goodX_put _ _ (by subst hg; exact letters_let f i hi)
  have hform : formP g = true := by subst hg; exact letters_form f
  have hkl : k < (goodL g l1).length := by omega
  have px := pack_ok hform hn.symm (fun i hi => hx i (by omega))
  have hcase : (byN g k = 105 ∨ byN g k = 117) → (at8 (goodL g l1) k).kind = 0 ∧ -2147483648 ≤ (at8 (goodL g l1) k).n ∧ (at8 (goodL g l1) k).n < 2147483648 := fun h => by
    rw [at8_good g l1 k hk]; exact goodX_n h
  generalize goodL g l1 = l at *
  have hs := setN_len l k m
  have hy : ∀ i, i < (setN l k m).length → putOk (byN g i) (at8 (setN l k m) i) = true ∧ (putB (at8 (setN l k m) i)).length ≤ 21 := fun i hi => by
    by_cases e : i = k
    · subst e
      rcases hm with ⟨h1, h2, h3⟩ | ⟨h1, h2, h3⟩ | ⟨h1, h2, h3⟩
      · obtain ⟨c1, c2, c3⟩ := hcase (.inl h1)
        rw [setN_at l i m (by omega)]
        refine ⟨?_, ?_⟩
        · unfold putOk fitI; rw [decide_eq_true_iff]; refine .inl ⟨c1, ?_⟩; rw [decide_eq_true_iff]; left; exact ⟨h1, by show _ ≤ m; omega, by show m < _; omega⟩
        · rw [putB0 (x := { at8 l i with n := m }) c1]; simp [b4]
      · obtain ⟨c1, c2, c3⟩ := hcase (.inr h1)
        rw [setN_at l i m (by omega)]
        refine ⟨?_, ?_⟩
        · unfold putOk fitI; rw [decide_eq_true_iff]; refine .inl ⟨c1, ?_⟩; rw [decide_eq_true_iff]; right; exact ⟨h1, by show _ ≤ m; omega, by show m < _; omega⟩
        · rw [putB0 (x := { at8 l i with n := m }) c1]; simp [b4]
      · subst h3; rw [setN_own l i (by omega)]; exact hx i (by omega)
    · rw [setN_ne l k i m e]; exact hx i (by omega)
  have py := pack_ok hform (by omega) hy
  rw [hs] at py
  refine ⟨px, py, ?_, fun i hi => ?_⟩
  · rcases hm with ⟨h1, h2, h3⟩ | ⟨h1, h2, h3⟩ | ⟨h1, h2, h3⟩
    · obtain ⟨c1, c2, c3⟩ := hcase (.inl h1)
      exact cat_same l (setN l k m) k l.length (by omega) (fun i hi => (setN_ne l k i m hi).symm) _ _ (putB0 c1) (by rw [setN_at l k m (by omega)]; exact putB0 (x := { at8 l k with n := m }) c1) ⟨c2, c3⟩ ⟨by omega, h3⟩
    · obtain ⟨c1, c2, c3⟩ := hcase (.inr h1)
      exact cat_same l (setN l k m) k l.length (by omega) (fun i hi => (setN_ne l k i m hi).symm) _ _ (putB0 c1) (by rw [setN_at l k m (by omega)]; exact putB0 (x := { at8 l k with n := m }) c1) ⟨c2, c3⟩ ⟨by omega, h3⟩
    · subst h3; rw [setN_own l k (by omega)]; exact ⟨fun _ => rfl, fun _ => rfl⟩
  · by_cases e : i = k
    · subst e
      have o := hok i (by omega)
      rw [setN_at l i m (by omega)]
      have hmb : -9223372036854775808 ≤ m ∧ m ≤ 9223372036854775807 := by
        rcases hm with ⟨h1, h2, h3⟩ | ⟨h1, h2, h3⟩ | ⟨h1, h2, h3⟩
        · omega
        · omega
        · rw [h3]; exact o.n
      exact ⟨o.kind, hmb, o.s, o.x0, o.y0, o.x1, o.y1, o.b⟩
    · rw [setN_ne l k i m e]; exact hok i (by omega)
end Go.Proofs.YtinnaiofgbjicaaDoor
