/- What is packed is unpacked as it was; a byte more, or less: in plain lists. -/
import Derived.Test.YtinnaiofgbjicaaDoorUnpA
import Derived.Test.YtinnaiofgbjicaaDoorArgQ
namespace Go.Proofs.YtinnaiofgbjicaaDoor
open Go.RowKit Go.Proofs.YtinnaiofgbjicaaDoorW.PrintWords
set_option linter.unusedSimpArgs false
set_option linter.unusedVariables false
set_option maxRecDepth 1000000
theorem numU_b4 (n : Int) (r : List Int) : numU (b4 n ++ r) = n % 4294967296 := by
  show n / 16777216 % 256 * 16777216 + n / 65536 % 256 * 65536 + n / 256 % 256 * 256 + n % 256 = n % 4294967296
  omega
theorem b4_drop (n : Int) (r : List Int) : (b4 n ++ r).drop 4 = r := rfl
theorem sign_mod (n : Int) (h : -2147483648 < n ∧ n < 2147483648) : signN (n % 4294967296) = n := by unfold signN; split <;> omega
theorem strOf_bytes (s : ByteArray) : strOfNums (bytesOf s) = s := by
  unfold strOfNums bytesOf
  have : (List.map (fun n => Int.toNat n |>.toUInt8) (List.map (fun b : UInt8 => (b.toNat : Int)) s.data.toList)) = s.data.toList := by
    rw [List.map_map]
    conv => rhs; rw [← List.map_id s.data.toList]
    apply List.map_congr_left
    intro b _
    simp
  apply ByteArray.ext
  simpa using congrArg List.toArray this
theorem goodX_canon (c : Int) (x : V8) : Canon (goodX c x) := by
  unfold goodX
  split
  · exact ⟨fun e => absurd rfl e, fun _ => rfl, fun _ => ⟨rfl, rfl, rfl, rfl⟩, fun _ => rfl⟩
  · split
    · exact ⟨fun e => absurd rfl e, fun _ => rfl, fun _ => ⟨rfl, rfl, rfl, rfl⟩, fun _ => rfl⟩
    · split
      · exact ⟨fun _ => rfl, fun e => absurd rfl e, fun _ => ⟨rfl, rfl, rfl, rfl⟩, fun _ => rfl⟩
      · split
        · exact ⟨fun _ => rfl, fun _ => rfl, fun e => absurd rfl e, fun _ => rfl⟩
        · exact ⟨fun _ => rfl, fun _ => rfl, fun _ => ⟨rfl, rfl, rfl, rfl⟩, fun e => absurd rfl e⟩
theorem ext20 (s : ByteArray) : (s.extract 0 (min s.size 20)).size ≤ 20 := by rw [ByteArray.size_extract]; omega
theorem oneP_s (s : ByteArray) (hs : s.size ≤ 255) (r : List Int) : oneP 115 (strB s ++ r) = some ({ v0 with kind := 1, s := s }, r) := by
  have hl := bytesOf_length s
  have h0 : (strB s ++ r).getD 0 0 = (s.size : Int) := by
    show ((s.size : Int) % 256) = s.size; omega
  have hd : (strB s ++ r).drop 1 = bytesOf s ++ r := rfl
  have hlen : (strB s ++ r).length = 1 + s.size + r.length := by simp [strB, hl]; omega
  unfold oneP
  rw [if_neg (by decide), if_neg (by decide), if_pos rfl, h0, hd, Int.toNat_natCast, if_neg (by omega)]
  have h2 : (strB s ++ r).drop (1 + s.size) = r := by rw [← List.drop_drop, hd, ← hl, List.drop_left]
  have h3 : (bytesOf s ++ r).take s.size = bytesOf s := by rw [← hl, List.take_left]
  rw [h2, h3, strOf_bytes]
theorem one_good (c : Int) (y : V8) (r : List Int) (hc : letC c) (hn : ¬ c = 98) : oneP c (putB (goodX c y) ++ r) = some (goodX c y, r) := by
  rcases hc with rfl | rfl | rfl | rfl | rfl
  · have hb := tm_bd y.n
    have e : goodX 105 y = { v0 with n := tm y.n } := by unfold goodX; rw [if_pos rfl]
    rw [e, putB0 rfl]
    have hl : ¬ (b4 (tm y.n) ++ r).length < 4 := by simp [b4]
    unfold oneP
    rw [if_pos rfl, if_neg hl, numU_b4, b4_drop, sign_mod _ hb]
  · have hb := tm_bd y.n
    have e : goodX 117 y = { v0 with n := max (tm y.n) (-tm y.n) } := by unfold goodX; rw [if_neg (by decide), if_pos rfl]
    rw [e, putB0 rfl]
    have hl : ¬ (b4 (max (tm y.n) (-tm y.n)) ++ r).length < 4 := by simp [b4]
    unfold oneP
    have hm : max (tm y.n) (-tm y.n) % 4294967296 = max (tm y.n) (-tm y.n) := by omega
    rw [if_neg (by decide), if_pos rfl, if_neg hl, numU_b4, b4_drop, hm]
  · have e : goodX 115 y = { v0 with kind := 1, s := y.s.extract 0 (min y.s.size 20) } := by unfold goodX; rw [if_neg (by decide), if_neg (by decide), if_pos rfl]
    rw [e, putB1 rfl]
    exact oneP_s (y.s.extract 0 (min y.s.size 20)) (by have := ext20 y.s; omega) r
  · have e : goodX 114 y = { v0 with kind := 2, x0 := tm y.x0, y0 := tm y.y0, x1 := tm y.x1, y1 := tm y.y1 } := by unfold goodX; rw [if_neg (by decide), if_neg (by decide), if_neg (by decide), if_pos rfl]
    have h0 := tm_bd y.x0; have h1 := tm_bd y.y0; have h2 := tm_bd y.x1; have h3 := tm_bd y.y1
    rw [e, putB2 rfl]
    simp only [rectB, List.append_assoc]
    have hl : ¬ (b4 (tm y.x0) ++ (b4 (tm y.y0) ++ (b4 (tm y.x1) ++ (b4 (tm y.y1) ++ r)))).length < 16 := by simp [b4]
    unfold oneP
    rw [if_neg (by decide), if_neg (by decide), if_neg (by decide), if_pos rfl, if_neg hl]
    have d4 : (b4 (tm y.x0) ++ (b4 (tm y.y0) ++ (b4 (tm y.x1) ++ (b4 (tm y.y1) ++ r)))).drop 4 = b4 (tm y.y0) ++ (b4 (tm y.x1) ++ (b4 (tm y.y1) ++ r)) := rfl
    have d8 : (b4 (tm y.x0) ++ (b4 (tm y.y0) ++ (b4 (tm y.x1) ++ (b4 (tm y.y1) ++ r)))).drop 8 = b4 (tm y.x1) ++ (b4 (tm y.y1) ++ r) := rfl
    have d12 : (b4 (tm y.x0) ++ (b4 (tm y.y0) ++ (b4 (tm y.x1) ++ (b4 (tm y.y1) ++ r)))).drop 12 = b4 (tm y.y1) ++ r := rfl
    have d16 : (b4 (tm y.x0) ++ (b4 (tm y.y0) ++ (b4 (tm y.x1) ++ (b4 (tm y.y1) ++ r)))).drop 16 = r := rfl
    rw [d4, d8, d12, d16, numU_b4, numU_b4, numU_b4, numU_b4, sign_mod _ h0, sign_mod _ h1, sign_mod _ h2, sign_mod _ h3]
  · exact absurd rfl hn
theorem one_good98 (y : V8) (r : List Int) : oneP 98 (putB (goodX 98 y) ++ r) = some ({ goodX 98 y with b := putB (goodX 98 y) ++ r }, []) := by
  have e : goodX 98 y = { v0 with kind := 3, b := y.b.take (min y.b.length 20) } := by unfold goodX; rw [if_neg (by decide), if_neg (by decide), if_neg (by decide), if_neg (by decide)]
  rw [e, putB3 rfl]
  unfold oneP; rw [if_neg (by decide), if_neg (by decide), if_neg (by decide), if_neg (by decide)]
theorem good_98b (y : V8) : ({ goodX 98 y with b := putB (goodX 98 y) ++ [] } : V8) = goodX 98 y := by
  have e : goodX 98 y = { v0 with kind := 3, b := y.b.take (min y.b.length 20) } := by unfold goodX; rw [if_neg (by decide), if_neg (by decide), if_neg (by decide), if_neg (by decide)]
  rw [e, putB3 rfl, List.append_nil]
/-- What is no whole argument is none. -/
theorem one_part (c : Int) (y : V8) (m : Nat) (hc : letC c) (hn : ¬ c = 98) (hm : m < (putB (goodX c y)).length) : oneP c ((putB (goodX c y)).take m) = none := by
  rcases hc with rfl | rfl | rfl | rfl | rfl
  · have e : goodX 105 y = { v0 with n := tm y.n } := by unfold goodX; rw [if_pos rfl]
    rw [e, putB0 rfl] at hm ⊢
    unfold oneP; rw [if_pos rfl, if_pos (by simp [b4] at hm ⊢; omega)]
  · have e : goodX 117 y = { v0 with n := max (tm y.n) (-tm y.n) } := by unfold goodX; rw [if_neg (by decide), if_pos rfl]
    rw [e, putB0 rfl] at hm ⊢
    unfold oneP; rw [if_neg (by decide), if_pos rfl, if_pos (by simp [b4] at hm ⊢; omega)]
  · have e : goodX 115 y = { v0 with kind := 1, s := y.s.extract 0 (min y.s.size 20) } := by unfold goodX; rw [if_neg (by decide), if_neg (by decide), if_pos rfl]
    rw [e, putB1 rfl] at hm ⊢
    have h20 := ext20 y.s
    change m < (strB (y.s.extract 0 (min y.s.size 20))).length at hm
    show oneP 115 ((strB (y.s.extract 0 (min y.s.size 20))).take m) = none
    generalize y.s.extract 0 (min y.s.size 20) = s at *
    have hl : (strB s).length = 1 + s.size := by simp [strB, bytesOf_length]; omega
    unfold oneP; rw [if_neg (by decide), if_neg (by decide), if_pos rfl]
    cases m with
    | zero => rw [List.take_zero]; rfl
    | succ m =>
      have h0 : ((strB s).take (m + 1)).getD 0 0 = (s.size : Int) := by show ((s.size : Int) % 256) = s.size; omega
      rw [h0, Int.toNat_natCast, if_pos (by rw [List.length_take]; omega)]
  · have e : goodX 114 y = { v0 with kind := 2, x0 := tm y.x0, y0 := tm y.y0, x1 := tm y.x1, y1 := tm y.y1 } := by unfold goodX; rw [if_neg (by decide), if_neg (by decide), if_neg (by decide), if_pos rfl]
    rw [e, putB2 rfl] at hm ⊢
    have hm' : m < 16 := hm
    unfold oneP; rw [if_neg (by decide), if_neg (by decide), if_neg (by decide), if_pos rfl, if_pos (by rw [List.length_take]; omega)]
  · exact absurd rfl hn
theorem good_pos (c : Int) (y : V8) (hc : letC c) (hn : ¬ c = 98) : 0 < (putB (goodX c y)).length := by
  rcases hc with rfl | rfl | rfl | rfl | rfl
  · have e : goodX 105 y = { v0 with n := tm y.n } := by unfold goodX; rw [if_pos rfl]
    rw [e, putB0 rfl]; simp [b4]
  · have e : goodX 117 y = { v0 with n := max (tm y.n) (-tm y.n) } := by unfold goodX; rw [if_neg (by decide), if_pos rfl]
    rw [e, putB0 rfl]; simp [b4]
  · have e : goodX 115 y = { v0 with kind := 1, s := y.s.extract 0 (min y.s.size 20) } := by unfold goodX; rw [if_neg (by decide), if_neg (by decide), if_pos rfl]
    rw [e, putB1 rfl]; simp [strB]
  · have e : goodX 114 y = { v0 with kind := 2, x0 := tm y.x0, y0 := tm y.y0, x1 := tm y.x1, y1 := tm y.y1 } := by unfold goodX; rw [if_neg (by decide), if_neg (by decide), if_neg (by decide), if_pos rfl]
    rw [e, putB2 rfl]; show 0 < 16; omega
  · exact absurd rfl hn
/-- Bytes of arguments from one on. -/
def sufB (l : List V8) : Nat → Nat → List Int
  | _, 0 => []
  | k, m + 1 => putB (at8 l k) ++ sufB l (k + 1) m
theorem sufB_snoc (l : List V8) : ∀ (m k : Nat), sufB l k (m + 1) = sufB l k m ++ putB (at8 l (k + m))
  | 0, k => by simp [sufB]
  | m + 1, k => by
    show putB (at8 l k) ++ sufB l (k + 1) (m + 1) = putB (at8 l k) ++ sufB l (k + 1) m ++ _
    rw [sufB_snoc l m (k + 1), List.append_assoc, show k + 1 + m = k + (m + 1) by omega]
theorem catB_suf (l : List V8) : ∀ k, catB l k = sufB l 0 k
  | 0 => rfl
  | k + 1 => by rw [sufB_snoc, Nat.zero_add, ← catB_suf l k]; rfl
theorem unpack_suf (g : ByteArray) (l : List V8) (n : Nat) (tail : List Int) (hl : l.length = g.size) (hg : ∀ i, i < g.size → letC (byN g i)) (hx : ∀ i, i < g.size → ∃ y, at8 l i = goodX (byN g i) y) :
    ∀ k, k ≤ n → n ≤ g.size → (∀ i, i < k → ¬ byN g i = 98) → unpackFrom g (sufB l 0 n ++ tail) k = some (l.take k, sufB l k (n - k) ++ tail)
  | 0, _, _, _ => rfl
  | k + 1, hk, hn, h98 => by
    have ih := unpack_suf g l n tail hl hg hx k (by omega) hn (fun i hi => h98 i (by omega))
    obtain ⟨y, hy⟩ := hx k (by omega)
    have e : sufB l k (n - k) = putB (at8 l k) ++ sufB l (k + 1) (n - (k + 1)) := by
      rw [show n - k = (n - (k + 1)) + 1 by omega]; rfl
    rw [e, List.append_assoc, hy] at ih
    rw [unpackFrom_yes ih (one_good _ y _ (hg k (by omega)) (h98 k (by omega)))]
    congr 2
    rw [List.take_succ_eq_append_getElem (by omega), ← hy]
    congr 2
    unfold at8; rw [List.getD_eq_getElem?_getD, List.getElem?_eq_getElem (by omega)]; rfl
/-- Is the last letter the one of bytes? -/
def openP (g : ByteArray) : Bool := decide (0 < g.size ∧ byN g (g.size - 1) = 98)
theorem good_at (g : ByteArray) (l1 : List V8) (i : Nat) (h : i < g.size) : ∃ y, at8 (goodL g l1) i = goodX (byN g i) y := ⟨_, at8_good g l1 i h⟩
theorem form_not98 {g : ByteArray} (hf : formP g = true) {i : Nat} (hi : i + 1 < g.size) : ¬ byN g i = 98 := fun e => by
  have := (formP_at hf (show i < g.size by omega)).2 e; omega
theorem closed_not98 {g : ByteArray} (hf : formP g = true) (ho : openP g = false) {i : Nat} (hi : i < g.size) : ¬ byN g i = 98 := fun e => by
  by_cases h : i + 1 < g.size
  · exact form_not98 hf h e
  · have : i = g.size - 1 := by omega
    subst this
    unfold openP at ho
    exact of_decide_eq_false ho ⟨by omega, e⟩
theorem round_ok (g : ByteArray) (l1 : List V8) (hf : formP g = true) : unpackP g (catB (goodL g l1) g.size) = (0, goodL g l1) := by
  have hl : (goodL g l1).length = g.size := goodL_len g l1
  have hg : ∀ i, i < g.size → letC (byN g i) := fun i hi => (formP_at hf hi).1
  have hx := fun i hi => good_at g l1 i hi
  unfold unpackP
  rw [if_pos hf, catB_suf]
  cases ho : openP g
  · have := unpack_suf g (goodL g l1) g.size [] hl hg hx g.size (Nat.le_refl _) (Nat.le_refl _) (fun i hi => closed_not98 hf ho hi)
    rw [List.append_nil, Nat.sub_self, List.take_of_length_le (by omega)] at this
    rw [this]; rfl
  · have hop := of_decide_eq_true ho
    obtain ⟨n, hn⟩ : ∃ n, g.size = n + 1 := ⟨g.size - 1, by omega⟩
    have h98 : byN g n = 98 := by have := hop.2; rwa [hn, Nat.add_sub_cancel] at this
    have := unpack_suf g (goodL g l1) g.size [] hl hg hx n (by omega) (Nat.le_refl _) (fun i hi => form_not98 hf (by omega))
    rw [List.append_nil, show g.size - n = 0 + 1 by omega] at this
    obtain ⟨y, hy⟩ := hx n (by omega)
    have e : sufB (goodL g l1) n (0 + 1) ++ [] = putB (goodX 98 y) ++ [] := by show putB (at8 (goodL g l1) n) ++ [] ++ [] = _; rw [hy, h98, List.append_nil]
    rw [e] at this
    have h2 := unpackFrom_yes this (show oneP (byN g n) _ = _ from by rw [h98]; exact one_good98 y [])
    rw [show n + 1 = g.size from hn.symm] at h2
    rw [h2, good_98b y]
    have e3 : (goodL g l1).take n ++ [goodX 98 y] = goodL g l1 := by
      have e4 : goodX 98 y = (goodL g l1)[n]'(by omega) := by
        rw [← h98, ← hy]; unfold at8; rw [List.getD_eq_getElem?_getD, List.getElem?_eq_getElem (by omega)]; rfl
      rw [e4, ← List.take_succ_eq_append_getElem, List.take_of_length_le (by omega)]
    rw [e3]; rfl
theorem round_more (g : ByteArray) (l1 : List V8) (x : Int) (hf : formP g = true) : ((unpackP g (catB (goodL g l1) g.size ++ [x])).1 == 2) = !openP g := by
  have hl : (goodL g l1).length = g.size := goodL_len g l1
  have hg : ∀ i, i < g.size → letC (byN g i) := fun i hi => (formP_at hf hi).1
  have hx := fun i hi => good_at g l1 i hi
  unfold unpackP
  rw [if_pos hf, catB_suf]
  cases ho : openP g
  · have := unpack_suf g (goodL g l1) g.size [x] hl hg hx g.size (Nat.le_refl _) (Nat.le_refl _) (fun i hi => closed_not98 hf ho hi)
    rw [Nat.sub_self] at this
    rw [this]; rfl
  · have hop := of_decide_eq_true ho
    obtain ⟨n, hn⟩ : ∃ n, g.size = n + 1 := ⟨g.size - 1, by omega⟩
    have h98 : byN g n = 98 := by have := hop.2; rwa [hn, Nat.add_sub_cancel] at this
    have := unpack_suf g (goodL g l1) g.size [x] hl hg hx n (by omega) (Nat.le_refl _) (fun i hi => form_not98 hf (by omega))
    rw [show g.size - n = 0 + 1 by omega] at this
    obtain ⟨y, hy⟩ := hx n (by omega)
    have e : sufB (goodL g l1) n (0 + 1) ++ [x] = putB (goodX 98 y) ++ [x] := by show putB (at8 (goodL g l1) n) ++ [] ++ [x] = _; rw [hy, h98, List.append_nil]
    rw [e] at this
    have h2 := unpackFrom_yes this (show oneP (byN g n) _ = _ from by rw [h98]; exact one_good98 y [x])
    rw [show n + 1 = g.size from hn.symm] at h2
    rw [h2]; rfl
theorem round_less (g : ByteArray) (l1 : List V8) (hf : formP g = true) (ho : openP g = false) (m : Nat) (hm : m + 1 = (catB (goodL g l1) g.size).length) : unpackP g ((catB (goodL g l1) g.size).take m) = (3, []) := by
  have hl : (goodL g l1).length = g.size := goodL_len g l1
  have hg : ∀ i, i < g.size → letC (byN g i) := fun i hi => (formP_at hf hi).1
  have hx := fun i hi => good_at g l1 i hi
  rw [catB_suf] at hm ⊢
  have hn0 : 0 < g.size := by
    rcases Nat.eq_zero_or_pos g.size with h | h
    · rw [h] at hm; simp [sufB] at hm
    · exact h
  obtain ⟨n, hn⟩ : ∃ n, g.size = n + 1 := ⟨g.size - 1, by omega⟩
  obtain ⟨y, hy⟩ := hx n (by omega)
  have h98 := closed_not98 hf ho (show n < g.size by omega)
  have hpos := good_pos _ y (hg n (by omega)) h98
  have es : sufB (goodL g l1) 0 g.size = sufB (goodL g l1) 0 n ++ putB (goodX (byN g n) y) := by rw [hn, sufB_snoc, Nat.zero_add, hy]
  rw [es] at hm ⊢
  rw [List.length_append] at hm
  have et : (sufB (goodL g l1) 0 n ++ putB (goodX (byN g n) y)).take m = sufB (goodL g l1) 0 n ++ (putB (goodX (byN g n) y)).take ((putB (goodX (byN g n) y)).length - 1) := by
    rw [List.take_append, List.take_of_length_le (by omega)]
    congr 2; omega
  rw [et]
  have hu := unpack_suf g (goodL g l1) n ((putB (goodX (byN g n) y)).take ((putB (goodX (byN g n) y)).length - 1)) hl hg hx n (Nat.le_refl _) (by omega) (fun i hi => closed_not98 hf ho (by omega))
  rw [Nat.sub_self] at hu
  exact unpack_short hf (show n < g.size by omega) hu (one_part _ y _ (hg n (by omega)) h98 (by omega))
end Go.Proofs.YtinnaiofgbjicaaDoor
namespace Go.Proofs.YtinnaiofgbjicaaDoor
open Go.RowKit Go.Proofs.YtinnaiofgbjicaaDoorW.PrintWords
set_option linter.unusedSimpArgs false
set_option linter.unusedVariables false
set_option maxRecDepth 1000000
theorem Byt.append {a b : List Int} (ha : Byt a) (hb : Byt b) : Byt (a ++ b) := fun n hn => (List.mem_append.1 hn).elim (ha n) (hb n)
theorem b4_byt (n : Int) : Byt (b4 n) := b4_bytes n
theorem bytesOf_byt (s : ByteArray) : Byt (bytesOf s) := fun n hn => by
  unfold bytesOf at hn
  obtain ⟨u, _, rfl⟩ := List.mem_map.1 hn
  have := u.toNat_lt; omega
theorem putB_byt {x : V8} (h : Byt x.b) : Byt (putB x) := by
  unfold putB
  split
  · exact b4_byt _
  · split
    · intro n hn
      unfold strB at hn
      rcases List.mem_cons.1 hn with h1 | h1
      · subst h1; omega
      · exact bytesOf_byt _ n h1
    · split
      · unfold rectB; exact (((b4_byt _).append (b4_byt _)).append (b4_byt _)).append (b4_byt _)
      · exact h
theorem goodX_byt {c : Int} {x : V8} (h : Byt x.b) : Byt (goodX c x).b := by
  unfold goodX
  split
  · exact Byt.nil
  · split
    · exact Byt.nil
    · split
      · exact Byt.nil
      · split
        · exact Byt.nil
        · exact h.take _
theorem catB_byt {l : List V8} (h : ∀ i, Byt (at8 l i).b) : ∀ k, Byt (catB l k)
  | 0 => Byt.nil
  | k + 1 => (catB_byt h k).append (putB_byt (h k))
theorem good_byt (g : ByteArray) (l1 : List V8) (h : ∀ i, i < l1.length → Byt (at8 l1 i).b) (k : Nat) : Byt (catB (goodL g l1) k) := by
  refine catB_byt (fun i => ?_) k
  by_cases hi : i < g.size
  · rw [at8_good g l1 i hi]
    refine goodX_byt ?_
    by_cases hl : i < l1.length
    · exact h i hl
    · rw [at8_out _ _ hl]; exact Byt.nil
  · rw [at8_out _ _ (by rw [goodL_len]; exact hi)]; exact Byt.nil
def PackB (w : World) (b : List Int) (e : Ending) (w' : World) : Prop := ∃ A c, e = .returned (.tuple #[.slice A b.length c, .int .i64 0]) ∧ BS w' A b c ∧ Below w.heap.size w w'
theorem args_PackB (f : ByteArray) (A : Option Addr) (l : List V8) (c : Nat) (w : World) (b : List Int) (hy : Byt b) (hb : packP f l = (0, b)) (hc : l.length ≤ c) (hz : f.size ≤ 140737488351232) (hok : AllOk l) (hr : AnyRow w A l) : Calls Tryd.prog 58 #[.string f, .slice A l.length c] w (PackB w b) := by
  refine (args_Pack f A l c w hc hz hok hr).mono fun e w' ⟨A', n, c', he, hn, ⟨h1, h2, h3⟩, hrd, hbel⟩ => ?_
  rw [hb] at he hn hrd
  simp only at hn
  subst hn
  exact ⟨A', c', he, ⟨h1, h2, h3, hrd, hy⟩, hbel⟩
theorem ref_PackB (f : ByteArray) (A : Option Addr) (l : List V8) (c : Nat) (w : World) (b : List Int) (hy : Byt b) (hb : packP f l = (0, b)) (hc : l.length ≤ c) (hz : f.size ≤ 140737488351232) (hok : AllOk l) (hr : VRow w A l) : Calls Tryd.prog 37 #[.string f, .slice A l.length c] w (PackB w b) := by
  refine (ref_Pack f A l c w hc hz hok hr).mono fun e w' ⟨A', n, c', he, hn, ⟨h1, h2, h3⟩, hrd, hbel⟩ => ?_
  rw [hb] at he hn hrd
  simp only at hn
  subst hn
  exact ⟨A', c', he, ⟨h1, h2, h3, hrd, hy⟩, hbel⟩
end Go.Proofs.YtinnaiofgbjicaaDoor
