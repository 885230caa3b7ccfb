/- Plain facts: a form that is made of any text is one; arguments made such as fit have bytes; and these are the same just if the arguments are. -/
import Derived.Test.YtinnaiofgbjicaaDoorArgPack
namespace Go.Proofs.YtinnaiofgbjicaaDoor
open Go.RowKit Go.Proofs.YtinnaiofgbjicaaDoorW.PrintWords
set_option linter.unusedSimpArgs false
set_option linter.unusedVariables false
set_option maxRecDepth 1000000
theorem byN_list (s : ByteArray) (i : Nat) : byN s i = ((s.data.toList[i]?).map (fun b => (b.toNat : Int))).getD 0 := by
  unfold byN
  by_cases h : i < s.size
  · rw [dif_pos h]
    have hl : i < s.data.toList.length := by rw [Array.length_toList]; exact h
    rw [List.getElem?_eq_getElem hl]; rfl
  · rw [dif_neg h]
    have hl : s.data.toList.length ≤ i := by rw [Array.length_toList]; exact Nat.le_of_not_lt h
    rw [List.getElem?_eq_none hl]; rfl
theorem byN_append (a b : ByteArray) (i : Nat) : byN (a ++ b) i = if i < a.size then byN a i else byN b (i - a.size) := by
  have hs : a.data.toList.length = a.size := by rw [Array.length_toList]; rfl
  rw [byN_list, byN_list, byN_list, ByteArray.data_append, Array.toList_append]
  split
  · rw [List.getElem?_append_left (by omega)]
  · rw [List.getElem?_append_right (by omega), hs]
def lcd (c : Nat) : Int := if c = 0 then 105 else if c = 1 then 117 else if c = 2 then 115 else if c = 3 then 114 else 98
theorem ltS_byte (c : Nat) (h : c < 5) : byN (ltS c) 0 = lcd c := by
  have : ∀ c : Fin 5, byN (ltS c.val) 0 = lcd c.val := by decide +kernel
  exact this ⟨c, h⟩
theorem letters_byte (s : ByteArray) (k i : Nat) (h : i < k) : byN (lettersS s k) i = lcd (lcode s i) := by
  induction k with
  | zero => omega
  | succ k ih =>
    rw [lettersS_succ, byN_append, lettersS_size]
    split
    · exact ih ‹_›
    · obtain rfl : i = k := by omega
      rw [Nat.sub_self]; exact ltS_byte _ (lcode_lt s i)
theorem lcd_let (c : Nat) : letC (lcd c) := by unfold lcd letC; split <;> (try split) <;> (try split) <;> (try split) <;> omega
theorem letters_form (s : ByteArray) : formP (lettersP s) = true := by
  unfold formP
  rw [decide_eq_true_iff]
  refine ⟨fun i hi => ?_, lettersP_size s⟩
  unfold lettersP at hi ⊢
  rw [lettersS_size] at hi
  refine ⟨?_, fun h98 => ?_⟩
  · rw [letters_byte s _ i hi]; exact lcd_let _
  · rw [letters_byte s _ i hi] at h98
    rw [lettersS_size]
    have h4 : lcode s i = 4 := by
      have := lcode_lt s i
      unfold lcd at h98
      split at h98 <;> (try split at h98) <;> (try split at h98) <;> (try split at h98) <;> omega
    unfold lcode at h4
    split at h4 <;> omega
theorem letters_let (s : ByteArray) (i : Nat) (h : i < (lettersP s).size) : letC (byN (lettersP s) i) := by
  unfold lettersP at h ⊢
  rw [lettersS_size] at h
  rw [letters_byte s _ i h]; exact lcd_let _
theorem putB0 {x : V8} (h : x.kind = 0) : putB x = b4 x.n := by unfold putB; rw [if_pos h]
theorem putB1 {x : V8} (h : x.kind = 1) : putB x = strB x.s := by unfold putB; rw [if_neg (by omega), if_pos h]
theorem putB2 {x : V8} (h : x.kind = 2) : putB x = rectB x.x0 x.y0 x.x1 x.y1 := by unfold putB; rw [if_neg (by omega), if_neg (by omega), if_pos h]
theorem putB3 {x : V8} (h : x.kind = 3) : putB x = x.b := by unfold putB; rw [if_neg (by omega), if_neg (by omega), if_neg (by omega)]
theorem goodX_put (c : Int) (x : V8) (h : letC c) : putOk c (goodX c x) = true ∧ (putB (goodX c x)).length ≤ 21 := by
  have t := tm_bd x.n; have t0 := tm_bd x.x0; have t1 := tm_bd x.y0; have t2 := tm_bd x.x1; have t3 := tm_bd x.y1
  have e1 : (x.s.extract 0 (min x.s.size 20)).size ≤ 20 := by rw [ByteArray.size_extract]; omega
  have e2 : (x.b.take (min x.b.length 20)).length ≤ 20 := by simp; omega
  unfold letC at h
  unfold goodX
  split
  · subst c
    refine ⟨?_, ?_⟩
    · unfold putOk fitI; rw [decide_eq_true_iff]; refine .inl ⟨rfl, ?_⟩; rw [decide_eq_true_iff]; left; exact ⟨rfl, by show _ ≤ tm x.n; omega, by show tm x.n < _; omega⟩
    · rw [putB0 rfl]; simp [b4]
  · split
    · subst c
      refine ⟨?_, ?_⟩
      · unfold putOk fitI; rw [decide_eq_true_iff]; refine .inl ⟨rfl, ?_⟩; rw [decide_eq_true_iff]; right; exact ⟨rfl, by show _ ≤ max (tm x.n) (-tm x.n); omega, by show max (tm x.n) (-tm x.n) < _; omega⟩
      · rw [putB0 rfl]; simp [b4]
    · split
      · subst c
        refine ⟨?_, ?_⟩
        · unfold putOk fitS; rw [decide_eq_true_iff]; refine .inr (.inl ⟨rfl, ?_⟩); rw [decide_eq_true_iff]; exact ⟨rfl, by show (x.s.extract 0 (min x.s.size 20)).size ≤ _; omega⟩
        · rw [putB1 rfl]; simp only [strB, List.length_cons, bytesOf_length]; omega
      · split
        · subst c
          refine ⟨?_, ?_⟩
          · unfold putOk fitR; rw [decide_eq_true_iff]; refine .inr (.inr (.inl ⟨rfl, ?_⟩)); rw [decide_eq_true_iff]
            exact ⟨rfl, by show smI (tm x.x0); unfold smI; omega, by show smI (tm x.y0); unfold smI; omega, by show smI (tm x.x1); unfold smI; omega, by show smI (tm x.y1); unfold smI; omega⟩
          · rw [putB2 rfl]; simp [rectB, b4]
        · have hc : c = 98 := by omega
          subst hc
          refine ⟨?_, ?_⟩
          · unfold putOk fitB; rw [decide_eq_true_iff]; refine .inr (.inr (.inr ⟨rfl, ?_⟩)); rw [decide_eq_true_iff]; exact ⟨rfl, by show (x.b.take (min x.b.length 20)).length ≤ _; omega⟩
          · rw [putB3 rfl]; show (x.b.take (min x.b.length 20)).length ≤ _; omega
/-- The bytes of the first k of a list, one behind the other. -/
def catB (l : List V8) : Nat → List Int
  | 0 => []
  | k + 1 => catB l k ++ putB (at8 l k)
theorem packFrom_cat (f : ByteArray) (l : List V8) (k : Nat) (h : ∀ i, i < k → putOk (byN f i) (at8 l i) = true) : packFrom f l k = some (catB l k) := by
  induction k with
  | zero => rfl
  | succ k ih =>
    have h1 := ih (fun i hi => h i (by omega))
    rw [packFrom_yes h1 (h k (by omega))]; rfl
theorem catB_len (l : List V8) (k : Nat) (m : Nat) (h : ∀ i, i < k → (putB (at8 l i)).length ≤ m) : (catB l k).length ≤ k * m := by
  induction k with
  | zero => simp [catB]
  | succ k ih =>
    have h1 := ih (fun i hi => h i (by omega))
    have h2 := h k (by omega)
    simp only [catB, List.length_append, Nat.succ_mul]; omega
theorem pack_ok {f : ByteArray} {l : List V8} (hf : formP f = true) (hs : f.size = l.length) (h : ∀ i, i < l.length → putOk (byN f i) (at8 l i) = true ∧ (putB (at8 l i)).length ≤ 21) : packP f l = (0, catB l l.length) := by
  have h8 : f.size ≤ 8 := by unfold formP at hf; exact (of_decide_eq_true hf).2
  have hl := catB_len l l.length 21 (fun i hi => (h i hi).2)
  have hm : l.length * 21 ≤ 8 * 21 := Nat.mul_le_mul_right _ (by omega)
  unfold packP
  rw [if_pos ⟨hf, hs⟩, packFrom_cat f l l.length (fun i hi => (h i hi).1)]
  simp only
  rw [if_pos (by omega)]
theorem pack_good (s : ByteArray) (l : List V8) : packP (lettersP s) (goodL (lettersP s) l) = (0, catB (goodL (lettersP s) l) (lettersP s).size) := by
  have := pack_ok (f := lettersP s) (l := goodL (lettersP s) l) (letters_form s) (goodL_len _ _).symm (fun i hi => by
    rw [goodL_len] at hi
    rw [at8_good _ _ i hi]
    exact goodX_put _ _ (letters_let s i hi))
  rw [this, goodL_len]
theorem strOfNums_append (a b : List Int) : strOfNums (a ++ b) = strOfNums a ++ strOfNums b := by
  apply ByteArray.ext
  rw [ByteArray.data_append]
  simp [strOfNums]
theorem strOfNums_inj {a b : List Int} (ha : ∀ n ∈ a, 0 ≤ n ∧ n ≤ 255) (hb : ∀ n ∈ b, 0 ≤ n ∧ n ≤ 255) (h : strOfNums a = strOfNums b) : a = b := by
  have h' : (a.map fun n => UInt8.ofNat n.toNat) = b.map fun n => UInt8.ofNat n.toNat := by
    have := congrArg (fun s : ByteArray => s.data.toList) h
    simpa [strOfNums] using this
  have hl : a.length = b.length := by simpa using congrArg List.length h'
  apply List.ext_getElem hl
  intro i h1 h2
  have e := congrArg (fun l => l[i]?) h'
  simp only [List.getElem?_map, List.getElem?_eq_getElem h1, List.getElem?_eq_getElem h2, Option.map_some, Option.some.injEq] at e
  have b1 := ha _ (List.getElem_mem h1)
  have b2 := hb _ (List.getElem_mem h2)
  have e' := congrArg UInt8.toNat e
  simp only [UInt8.toNat_ofNat'] at e'
  omega
theorem b4_bytes (n : Int) : ∀ m ∈ b4 n, 0 ≤ m ∧ m ≤ 255 := by
  intro m hm
  simp only [b4, List.mem_cons, List.not_mem_nil, or_false] at hm
  rcases hm with rfl | rfl | rfl | rfl <;> omega
theorem b4_inj {n m : Int} (hn : -2147483648 ≤ n ∧ n < 2147483648) (hm : -2147483648 ≤ m ∧ m < 2147483648) (h : b4 n = b4 m) : n = m := by
  simp only [b4, List.cons.injEq, and_true] at h
  omega
/-- Two lists that part at one place at most, there in four bytes: their bytes are the same just if these are. -/
theorem catB_part (x y : List V8) (k n : Nat) (hk : k < n) (h : ∀ i, i ≠ k → at8 x i = at8 y i) : ∃ A B, catB x n = A ++ putB (at8 x k) ++ B ∧ catB y n = A ++ putB (at8 y k) ++ B := by
  induction n with
  | zero => omega
  | succ n ih =>
    by_cases e : k = n
    · subst e
      have hs : ∀ m, m ≤ k → catB x m = catB y m := by
        intro m hm
        induction m with
        | zero => rfl
        | succ m ihm => simp only [catB, ihm (by omega), h m (by omega)]
      exact ⟨catB x k, [], by simp [catB], by simp [catB, hs k (Nat.le_refl _)]⟩
    · obtain ⟨A, B, h1, h2⟩ := ih (by omega)
      refine ⟨A, B ++ putB (at8 x n), ?_, ?_⟩
      · simp only [catB, h1, List.append_assoc]
      · simp only [catB, h2, h n (by omega), List.append_assoc]
theorem cat_same (x y : List V8) (k n : Nat) (hk : k < n) (h : ∀ i, i ≠ k → at8 x i = at8 y i) (nx ny : Int) (hx : putB (at8 x k) = b4 nx) (hy : putB (at8 y k) = b4 ny) (bx : -2147483648 ≤ nx ∧ nx < 2147483648) (by_ : -2147483648 ≤ ny ∧ ny < 2147483648) :
    strOfNums (catB x n) = strOfNums (catB y n) ↔ nx = ny := by
  obtain ⟨A, B, h1, h2⟩ := catB_part x y k n hk h
  rw [h1, h2, hx, hy]
  refine ⟨fun e => ?_, fun e => by rw [e]⟩
  rw [strOfNums_append, strOfNums_append, strOfNums_append, strOfNums_append] at e
  have e1 := congrArg (fun s : ByteArray => s.data.toList) e
  simp only [ByteArray.data_append, Array.toList_append, List.append_assoc] at e1
  have e2 := List.append_cancel_left e1
  have e3 := List.append_cancel_right e2
  have e4 : strOfNums (b4 nx) = strOfNums (b4 ny) := by apply ByteArray.ext; exact Array.ext' e3
  exact b4_inj bx by_ (strOfNums_inj (b4_bytes nx) (b4_bytes ny) e4)
end Go.Proofs.YtinnaiofgbjicaaDoor
