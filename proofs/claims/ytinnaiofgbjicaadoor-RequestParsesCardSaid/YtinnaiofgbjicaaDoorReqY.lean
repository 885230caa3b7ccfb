/- A good request is asked for; plain. -/
import Derived.Test.YtinnaiofgbjicaaDoorGood
import Derived.Test.YtinnaiofgbjicaaDoorTitY
namespace Go.Proofs.YtinnaiofgbjicaaDoor
open Go.RowKit Go.Proofs.YtinnaiofgbjicaaDoorW.PrintWords
set_option linter.unusedSimpArgs false
set_option linter.unusedVariables false
set_option maxRecDepth 1000000
theorem q_u4 (n : Int) (r : List Int) (h : 0 ≤ n ∧ n ≤ 4294967295) : oneP 117 (b4 n ++ r) = some (vI n, r) := by
  unfold oneP
  have hl : ¬ (b4 n ++ r).length < 4 := by simp [b4]
  rw [if_neg (by decide), if_pos rfl, if_neg hl, numU_b4, b4_drop, show n % 4294967296 = n by omega]
  rfl
theorem q_i4 (n : Int) (r : List Int) (h : -2147483648 < n ∧ n < 2147483648) : oneP 105 (b4 n ++ r) = some (vI n, r) := by
  unfold oneP
  have hl : ¬ (b4 n ++ r).length < 4 := by simp [b4]
  rw [if_pos rfl, if_neg hl, numU_b4, b4_drop, sign_mod n h]
  rfl
theorem q_r16 (x0 y0 x1 y1 : Int) (r : List Int) (h0 : -2147483648 < x0 ∧ x0 < 2147483648) (h1 : -2147483648 < y0 ∧ y0 < 2147483648) (h2 : -2147483648 < x1 ∧ x1 < 2147483648) (h3 : -2147483648 < y1 ∧ y1 < 2147483648) : oneP 114 (rectB x0 y0 x1 y1 ++ r) = some (vR x0 y0 x1 y1, r) := by
  unfold oneP
  have hl : ¬ (rectB x0 y0 x1 y1 ++ r).length < 16 := by simp [rectB, b4]
  have e : rectB x0 y0 x1 y1 ++ r = b4 x0 ++ (b4 y0 ++ (b4 x1 ++ (b4 y1 ++ r))) := by simp [rectB, List.append_assoc]
  rw [if_neg (by decide), if_neg (by decide), if_neg (by decide), if_pos rfl, if_neg hl, e]
  have d4 : (b4 x0 ++ (b4 y0 ++ (b4 x1 ++ (b4 y1 ++ r)))).drop 4 = b4 y0 ++ (b4 x1 ++ (b4 y1 ++ r)) := rfl
  have d8 : (b4 x0 ++ (b4 y0 ++ (b4 x1 ++ (b4 y1 ++ r)))).drop 8 = b4 x1 ++ (b4 y1 ++ r) := rfl
  have d12 : (b4 x0 ++ (b4 y0 ++ (b4 x1 ++ (b4 y1 ++ r)))).drop 12 = b4 y1 ++ r := rfl
  have d16 : (b4 x0 ++ (b4 y0 ++ (b4 x1 ++ (b4 y1 ++ r)))).drop 16 = r := rfl
  rw [d4, d8, d12, d16, numU_b4, numU_b4, numU_b4, numU_b4, sign_mod x0 h0, sign_mod y0 h1, sign_mod x1 h2, sign_mod y1 h3]
  rfl
theorem qunp_1 {f : ByteArray} {x : V8} {b1 : List Int} (hf : formP f = true) (hs : f.size = 1) (h0 : oneP (byN f 0) b1 = some (x, [])) : unpackP f b1 = (0, [x]) := by
  have e1 : unpackFrom f b1 1 = some ([] ++ [x], []) := unpackFrom_yes rfl h0
  unfold unpackP; rw [if_pos hf, hs, e1]; rfl
theorem qunp_2 {f : ByteArray} {x y : V8} {b1 b2 : List Int} (hf : formP f = true) (hs : f.size = 2) (h0 : oneP (byN f 0) (b1 ++ b2) = some (x, b2)) (h1 : oneP (byN f 1) b2 = some (y, [])) : unpackP f (b1 ++ b2) = (0, [x, y]) := by
  have e1 : unpackFrom f (b1 ++ b2) 1 = some ([] ++ [x], b2) := unpackFrom_yes rfl h0
  have e2 := unpackFrom_yes e1 h1
  unfold unpackP; rw [if_pos hf, hs, e2]; rfl
theorem qpk_1 {f : ByteArray} {x : V8} (hf : formP f = true) (hs : f.size = 1) (h0 : putOk (byN f 0) x = true) : packP f [x] = (0, putB x) := by
  have hl := putB_len h0
  have e : packFrom f [x] 1 = some (putB x) := by
    simp only [packFrom]
    rw [if_pos (show putOk (byN f 0) (at8 [x] 0) = true from h0)]; rfl
  unfold packP
  rw [if_pos ⟨hf, hs⟩]
  show (match packFrom f [x] 1 with | none => _ | some b => _) = _
  rw [e]
  simp only
  rw [if_pos hl]
theorem qpk_2 {f : ByteArray} {x y : V8} (hf : formP f = true) (hs : f.size = 2) (h0 : putOk (byN f 0) x = true) (h1 : putOk (byN f 1) y = true) (hl : (putB x ++ putB y).length ≤ 4096) : packP f [x, y] = (0, putB x ++ putB y) := by
  have e : packFrom f [x, y] 2 = some (putB x ++ putB y) := by
    simp only [packFrom]
    rw [if_pos (show putOk (byN f 0) (at8 [x, y] 0) = true from h0)]
    simp only
    rw [if_pos (show putOk (byN f 1) (at8 [x, y] 1) = true from h1)]; rfl
  unfold packP
  rw [if_pos ⟨hf, hs⟩]
  show (match packFrom f [x, y] 2 with | none => _ | some b => _) = _
  rw [e]
  simp only
  rw [if_pos hl]
theorem encK_ok {T : ByteArray → Bool} {k : Nat} {q : Q9} {b : List Int} (hp : packP (formQ k) (argsQ k q) = (0, b)) (hu : unpackP (formQ k) b = (0, argsQ k q)) (hf : foldQ (startQ k q.id) (argsQ k q) (argsQ k q).length = q)
    (hm : mayM k q.id b.length = true) (hi : mayId k q.id = true) (hq : mayQA T k q = true) : encK T k q = (0, ⟨k, q.id, b⟩) := by
  have hqo : qOf k q.id b = q := by unfold qOf; rw [hu]; exact hf
  have hd : decK T k q.id b = (0, q) := by
    unfold decK
    rw [hu, if_pos rfl, hqo, if_pos ⟨hi, hq⟩]
  unfold encK
  rw [hp, hd, if_pos ⟨rfl, hm, rfl, rfl⟩]
theorem good_id {k : Nat} {id : Int} (hk : k < 18) (h : 1 ≤ id ∧ id ≤ 100) : mayId k id = true := by
  unfold mayId inB
  have h1 : (id == 0) = false := by simp; omega
  have h2 : ((k : Int) == 18) = false := by simp; omega
  rw [h1, h2, decide_eq_true (by omega)]; rfl
theorem good_M {k : Nat} {id : Int} {n : Nat} (hk : k ≤ 18) (h : 0 ≤ id ∧ id ≤ 100) (hn : n ≤ 4096) : mayM k id n = true := by
  unfold mayM; exact decide_eq_true (by omega)
theorem ok_uI {n : Int} (h : 0 ≤ n ∧ n ≤ 1000) : putOk 117 (vI n) = true := decide_eq_true (.inl ⟨rfl, decide_eq_true (.inr ⟨rfl, h.1, by show n < _; omega⟩)⟩)
theorem ok_iI {n : Int} (h : -1000 ≤ n ∧ n ≤ 1000) : putOk 105 (vI n) = true := decide_eq_true (.inl ⟨rfl, decide_eq_true (.inl ⟨rfl, by show _ ≤ n; omega, by show n < _; omega⟩)⟩)
theorem enc_u {T : ByteArray → Bool} {k : Nat} {id a : Int} (hk : k < 18) (hf : formQ k = { data := #[117] }) (hl : argsQ k ⟨k, id, a, 0, 0, 0, 0, 0, { data := #[] }, []⟩ = [vI a]) (hid : 1 ≤ id ∧ id ≤ 100) (ha : 0 ≤ a ∧ a ≤ 1000) (hq : mayQA T k ⟨k, id, a, 0, 0, 0, 0, 0, { data := #[] }, []⟩ = true) :
    encK T k ⟨k, id, a, 0, 0, 0, 0, 0, { data := #[] }, []⟩ = (0, ⟨k, id, b4 a⟩) := by
  have h1 := q_u4 a [] (by omega)
  rw [List.append_nil] at h1
  refine encK_ok ?_ ?_ ?_ (good_M (by omega) (by show 0 ≤ id ∧ id ≤ 100; omega) (by simp [b4])) (good_id hk hid) hq
  · rw [hl, hf]; exact qpk_1 (by decide +kernel) rfl (ok_uI ha)
  · rw [hl, hf]; exact qunp_1 (by decide +kernel) rfl h1
  · rw [hl]; rfl
theorem enc_uu {T : ByteArray → Bool} {id a b : Int} (hid : 1 ≤ id ∧ id ≤ 100) (ha : 1 ≤ a ∧ a ≤ 256) (hb : 1 ≤ b ∧ b ≤ 256) : encK T 0 ⟨0, id, a, b, 0, 0, 0, 0, { data := #[] }, []⟩ = (0, ⟨0, id, b4 a ++ b4 b⟩) := by
  have h1 := q_u4 b [] (by omega)
  rw [List.append_nil] at h1
  refine encK_ok ?_ ?_ ?_ (good_M (by omega) (by show 0 ≤ id ∧ id ≤ 100; omega) (by simp [b4])) (good_id (by omega) hid) ?_
  · exact qpk_2 (f := formQ 0) (by decide +kernel) rfl (ok_uI (n := a) ⟨by omega, by omega⟩) (ok_uI (n := b) ⟨by omega, by omega⟩) (by simp [putB, vI, v0, b4])
  · exact qunp_2 (f := formQ 0) (by decide +kernel) rfl (q_u4 a (b4 b) (by omega)) h1
  · rfl
  · exact decide_eq_true ⟨by omega, by omega⟩
theorem enc_ii {T : ByteArray → Bool} {k : Nat} {id a b : Int} (hk : k ≤ 18) (hf : formQ k = { data := #[105, 105] }) (hl : argsQ k ⟨k, id, a, b, 0, 0, 0, 0, { data := #[] }, []⟩ = [vI a, vI b]) (hid : 0 ≤ id ∧ id ≤ 100) (hi : mayId k id = true) (ha : -1000 ≤ a ∧ a ≤ 1000) (hb : -1000 ≤ b ∧ b ≤ 1000) (hq : mayQA T k ⟨k, id, a, b, 0, 0, 0, 0, { data := #[] }, []⟩ = true) :
    encK T k ⟨k, id, a, b, 0, 0, 0, 0, { data := #[] }, []⟩ = (0, ⟨k, id, b4 a ++ b4 b⟩) := by
  have h1 := q_i4 b [] (by omega)
  rw [List.append_nil] at h1
  refine encK_ok ?_ ?_ ?_ (good_M hk hid (by simp [b4])) hi hq
  · rw [hl, hf]; exact qpk_2 (by decide +kernel) rfl (ok_iI ha) (ok_iI hb) (by simp [putB, vI, v0, b4])
  · rw [hl, hf]; exact qunp_2 (by decide +kernel) rfl (q_i4 a (b4 b) (by omega)) h1
  · rw [hl]; rfl
theorem enc_no {T : ByteArray → Bool} {k : Nat} {id : Int} (hk : k < 18) (hf : formQ k = { data := #[] }) (hl : argsQ k ⟨k, id, 0, 0, 0, 0, 0, 0, { data := #[] }, []⟩ = []) (hid : 1 ≤ id ∧ id ≤ 100) (hq : mayQA T k ⟨k, id, 0, 0, 0, 0, 0, 0, { data := #[] }, []⟩ = true) :
    encK T k ⟨k, id, 0, 0, 0, 0, 0, 0, { data := #[] }, []⟩ = (0, ⟨k, id, []⟩) := by
  refine encK_ok ?_ ?_ ?_ (good_M (by omega) (by show 0 ≤ id ∧ id ≤ 100; omega) (by simp)) (good_id hk hid) hq
  · rw [hl, hf]; decide +kernel
  · rw [hl, hf]; unfold unpackP; rw [if_pos (by decide +kernel)]; rfl
  · rw [hl]; rfl
theorem smI_of {n : Int} (h : -1000 ≤ n ∧ n ≤ 1000) : smI n := by unfold smI; omega
theorem ok_rR {x0 y0 x1 y1 : Int} (h0 : -1000 ≤ x0 ∧ x0 ≤ 1000) (h1 : -1000 ≤ y0 ∧ y0 ≤ 1000) (h2 : -1000 ≤ x1 ∧ x1 ≤ 1000) (h3 : -1000 ≤ y1 ∧ y1 ≤ 1000) : putOk 114 (vR x0 y0 x1 y1) = true :=
  decide_eq_true (.inr (.inr (.inl ⟨rfl, decide_eq_true ⟨rfl, smI_of h0, smI_of h1, smI_of h2, smI_of h3⟩⟩)))
theorem enc_r {T : ByteArray → Bool} {k : Nat} {id x0 y0 x1 y1 : Int} (hk : k < 18) (hf : formQ k = { data := #[114] }) (hl : argsQ k ⟨k, id, 0, 0, x0, y0, x1, y1, { data := #[] }, []⟩ = [vR x0 y0 x1 y1]) (hid : 1 ≤ id ∧ id ≤ 100)
    (h0 : -1000 ≤ x0 ∧ x0 ≤ 1000) (h1 : -1000 ≤ y0 ∧ y0 ≤ 1000) (h2 : -1000 ≤ x1 ∧ x1 ≤ 1000) (h3 : -1000 ≤ y1 ∧ y1 ≤ 1000) (hq : mayQA T k ⟨k, id, 0, 0, x0, y0, x1, y1, { data := #[] }, []⟩ = true) :
    encK T k ⟨k, id, 0, 0, x0, y0, x1, y1, { data := #[] }, []⟩ = (0, ⟨k, id, rectB x0 y0 x1 y1⟩) := by
  have hr := q_r16 x0 y0 x1 y1 [] (by omega) (by omega) (by omega) (by omega)
  rw [List.append_nil] at hr
  refine encK_ok ?_ ?_ ?_ (good_M (by omega) (by show 0 ≤ id ∧ id ≤ 100; omega) (by simp [rectB, b4])) (good_id hk hid) hq
  · rw [hl, hf]; exact qpk_1 (by decide +kernel) rfl (ok_rR h0 h1 h2 h3)
  · rw [hl, hf]; exact qunp_1 (by decide +kernel) rfl hr
  · rw [hl]; rfl
theorem enc_s {T : ByteArray → Bool} {id : Int} {s : ByteArray} (hid : 1 ≤ id ∧ id ≤ 100) (hs : s.size ≤ 255) (hT : T s = true) : encK T 14 ⟨14, id, 0, 0, 0, 0, 0, 0, s, []⟩ = (0, ⟨14, id, strB s⟩) := by
  have h1 := oneP_s s hs []
  rw [List.append_nil] at h1
  have hlen : (strB s).length ≤ 4096 := by
    have : (bytesOf s).length = s.size := bytesOf_length s
    unfold strB; rw [List.length_cons, this]; omega
  refine encK_ok ?_ ?_ ?_ (good_M (by omega) (by show 0 ≤ id ∧ id ≤ 100; omega) hlen) (good_id (by omega) hid) hT
  · exact qpk_1 (f := formQ 14) (x := vS s) (by decide +kernel) rfl (decide_eq_true (.inr (.inl ⟨rfl, decide_eq_true ⟨rfl, hs⟩⟩)))
  · exact qunp_1 (f := formQ 14) (x := vS s) (by decide +kernel) rfl h1
  · rfl
theorem enc_rb {T : ByteArray → Bool} {id x0 y0 x1 y1 : Int} {d : List Int} (hid : 1 ≤ id ∧ id ≤ 100) (h0 : 0 ≤ x0 ∧ x0 ≤ 100) (h1 : 0 ≤ y0 ∧ y0 ≤ 100) (h2 : x0 < x1 ∧ x1 ≤ 200) (h3 : y0 < y1 ∧ y1 ≤ 200) (hd : d.length ≤ 64) :
    encK T 2 ⟨2, id, 0, 0, x0, y0, x1, y1, { data := #[] }, d⟩ = (0, ⟨2, id, rectB x0 y0 x1 y1 ++ d⟩) := by
  have hlen : (rectB x0 y0 x1 y1 ++ d).length ≤ 4096 := by simp [rectB, b4]; omega
  have h98 : oneP 98 d = some (vB d, []) := by
    unfold oneP
    rw [if_neg (by decide), if_neg (by decide), if_neg (by decide), if_neg (by decide)]
    rfl
  refine encK_ok ?_ ?_ ?_ (good_M (by omega) (by show 0 ≤ id ∧ id ≤ 100; omega) hlen) (good_id (by omega) hid) ?_
  · exact qpk_2 (f := formQ 2) (x := vR x0 y0 x1 y1) (y := vB d) (by decide +kernel) rfl (ok_rR (by omega) (by omega) (by omega) (by omega)) (decide_eq_true (.inr (.inr (.inr ⟨rfl, decide_eq_true ⟨rfl, by show d.length ≤ 4096; omega⟩⟩)))) hlen
  · exact qunp_2 (f := formQ 2) (x := vR x0 y0 x1 y1) (y := vB d) (by decide +kernel) rfl (q_r16 x0 y0 x1 y1 d (by omega) (by omega) (by omega) (by omega)) h98
  · rfl
  · show (rMay x0 y0 x1 y1 && !rEmpty x0 y0 x1 y1) = true
    unfold rMay rEmpty
    rw [decide_eq_true (by omega), decide_eq_false (by omega), decide_eq_false (by omega)]; rfl
theorem good_ok (q : Q9) : (encO mayT (goodQ q)).1 = 0 := by
  have ho := around_bd q.op 19 (by omega)
  have hi := around_bd q.id 9 (by omega)
  generalize hk : around q.op 19 = o at *
  have h19 : o = 0 ∨ o = 1 ∨ o = 2 ∨ o = 3 ∨ o = 4 ∨ o = 5 ∨ o = 6 ∨ o = 7 ∨ o = 8 ∨ o = 9 ∨ o = 10 ∨ o = 11 ∨ o = 12 ∨ o = 13 ∨ o = 14 ∨ o = 15 ∨ o = 16 ∨ o = 17 ∨ o = 18 := by omega
  have a10 := around_bd q.a 10 (by omega)
  have a40 := around_bd q.a 40 (by omega)
  have b40 := around_bd q.b 40 (by omega)
  have u (k : Nat) (a : Int) (hk18 : k < 18) (hf : formQ k = { data := #[117] }) (hl : ∀ id, argsQ k ⟨k, id, a, 0, 0, 0, 0, 0, { data := #[] }, []⟩ = [vI a]) (ha : 0 ≤ a ∧ a ≤ 1000) (hq : ∀ id, mayQA mayT k ⟨k, id, a, 0, 0, 0, 0, 0, { data := #[] }, []⟩ = true) (hg : goodQ q = ⟨k, 1 + around q.id 9, a, 0, 0, 0, 0, 0, { data := #[] }, []⟩) : (encO mayT (goodQ q)).1 = 0 := by
    rw [hg, encO_k mayT (k := k) (by omega) rfl, enc_u hk18 hf (hl _) (by omega) ha (hq _)]
  have n (k : Nat) (hk18 : k < 18) (hf : formQ k = { data := #[] }) (hl : ∀ id, argsQ k ⟨k, id, 0, 0, 0, 0, 0, 0, { data := #[] }, []⟩ = []) (hq : ∀ id, mayQA mayT k ⟨k, id, 0, 0, 0, 0, 0, 0, { data := #[] }, []⟩ = true) (hg : goodQ q = ⟨k, 1 + around q.id 9, 0, 0, 0, 0, 0, 0, { data := #[] }, []⟩) : (encO mayT (goodQ q)).1 = 0 := by
    rw [hg, encO_k mayT (k := k) (by omega) rfl, enc_no hk18 hf (hl _) (by omega) (hq _)]
  have r (k : Nat) (hk18 : k < 18) (hf : formQ k = { data := #[114] }) (hl : ∀ id x0 y0 x1 y1, argsQ k ⟨k, id, 0, 0, x0, y0, x1, y1, { data := #[] }, []⟩ = [vR x0 y0 x1 y1]) (hq : ∀ id x0 y0 x1 y1, mayQA mayT k ⟨k, id, 0, 0, x0, y0, x1, y1, { data := #[] }, []⟩ = rMay x0 y0 x1 y1) (hg : goodQ q = ⟨k, 1 + around q.id 9, 0, 0, (rSmall q.x0 q.y0 q.x1 q.y1).x0, (rSmall q.x0 q.y0 q.x1 q.y1).y0, (rSmall q.x0 q.y0 q.x1 q.y1).x1, (rSmall q.x0 q.y0 q.x1 q.y1).y1, { data := #[] }, []⟩) : (encO mayT (goodQ q)).1 = 0 := by
    have e0 := around_bd q.x0 24 (by omega)
    have e1 := around_bd q.y0 24 (by omega)
    have e2 := around_bd q.x1 13 (by omega)
    have e3 := around_bd q.y1 13 (by omega)
    unfold rSmall at hg
    simp only at hg
    rw [hg, encO_k mayT (k := k) (by omega) rfl, enc_r hk18 hf (hl _ _ _ _ _) (by omega) (by omega) (by omega) (by omega) (by omega) (by rw [hq]; unfold rMay; exact decide_eq_true (by omega))]
  have i (k : Nat) (id : Int) (hk18 : k ≤ 18) (hid : 0 ≤ id ∧ id ≤ 100) (hi : mayId k id = true) (hf : formQ k = { data := #[105, 105] }) (hl : ∀ id a b, argsQ k ⟨k, id, a, b, 0, 0, 0, 0, { data := #[] }, []⟩ = [vI a, vI b]) (hq : ∀ id a b, mayQA mayT k ⟨k, id, a, b, 0, 0, 0, 0, { data := #[] }, []⟩ = inB2 (-1048576) 1048576 a b) (hg : goodQ q = ⟨k, id, around q.a 40 - 10, around q.b 40 - 10, 0, 0, 0, 0, { data := #[] }, []⟩) : (encO mayT (goodQ q)).1 = 0 := by
    rw [hg, encO_k mayT (k := k) (by omega) rfl, enc_ii hk18 hf (hl _ _ _) hid hi (by omega) (by omega) (by rw [hq]; unfold inB2; exact decide_eq_true ⟨by omega, by omega⟩)]
  rcases h19 with rfl | rfl | rfl | rfl | rfl | rfl | rfl | rfl | rfl | rfl | rfl | rfl | rfl | rfl | rfl | rfl | rfl | rfl | rfl
  · have hg : goodQ q = ⟨0, 1 + around q.id 9, 1 + around q.a 16, 1 + around q.b 16, 0, 0, 0, 0, { data := #[] }, []⟩ := by unfold goodQ; rw [hk]; rfl
    have e0 := around_bd q.a 16 (by omega)
    have e1 := around_bd q.b 16 (by omega)
    rw [hg, encO_k mayT (k := 0) (by omega) rfl, enc_uu (by omega) (by omega) (by omega)]
  · exact n 1 (by omega) rfl (fun _ => rfl) (fun _ => rfl) (by unfold goodQ; rw [hk]; rfl)
  · have hg : goodQ q = ⟨2, 1 + around q.id 9, 0, 0, around q.x0 8, around q.y0 8, around q.x0 8 + 1 + around q.x1 4, around q.y0 8 + 1 + around q.y1 4, { data := #[] }, q.d.take 64⟩ := by unfold goodQ; rw [hk]; rfl
    have e0 := around_bd q.x0 8 (by omega)
    have e1 := around_bd q.y0 8 (by omega)
    have e2 := around_bd q.x1 4 (by omega)
    have e3 := around_bd q.y1 4 (by omega)
    rw [hg, encO_k mayT (k := 2) (by omega) rfl, enc_rb (by omega) (by omega) (by omega) (by omega) (by omega) (by simp; omega)]
  · exact n 3 (by omega) rfl (fun _ => rfl) (fun _ => rfl) (by unfold goodQ; rw [hk]; rfl)
  · exact n 4 (by omega) rfl (fun _ => rfl) (fun _ => rfl) (by unfold goodQ; rw [hk]; rfl)
  · exact u 5 (around q.a 10) (by omega) rfl (fun _ => rfl) (by omega) (fun _ => rfl) (by unfold goodQ; rw [hk]; rfl)
  · exact r 6 (by omega) rfl (fun _ _ _ _ _ => rfl) (fun _ _ _ _ _ => rfl) (by unfold goodQ; rw [hk]; rfl)
  · exact i 7 (1 + around q.id 9) (by omega) (by omega) (good_id (by omega) (by omega)) rfl (fun _ _ _ => rfl) (fun _ _ _ => rfl) (by unfold goodQ; rw [hk]; rfl)
  · exact u 8 (around q.a 10) (by omega) rfl (fun _ => rfl) (by omega) (fun _ => rfl) (by unfold goodQ; rw [hk]; rfl)
  · exact n 9 (by omega) rfl (fun _ => rfl) (fun _ => rfl) (by unfold goodQ; rw [hk]; rfl)
  · have e0 := around_bd q.a 3 (by omega)
    exact u 10 (1 + around q.a 3) (by omega) rfl (fun _ => rfl) (by omega) (fun _ => decide_eq_true (show 1 ≤ 1 + around q.a 3 ∧ 1 + around q.a 3 ≤ 8 by omega)) (by unfold goodQ; rw [hk]; rfl)
  · exact r 11 (by omega) rfl (fun _ _ _ _ _ => rfl) (fun _ _ _ _ _ => rfl) (by unfold goodQ; rw [hk]; rfl)
  · exact r 12 (by omega) rfl (fun _ _ _ _ _ => rfl) (fun _ _ _ _ _ => rfl) (by unfold goodQ; rw [hk]; rfl)
  · have e0 := around_bd q.a 256 (by omega)
    exact u 13 (around q.a 256) (by omega) rfl (fun _ => rfl) (by omega) (fun _ => decide_eq_true (show 0 ≤ around q.a 256 ∧ around q.a 256 ≤ 255 by omega)) (by unfold goodQ; rw [hk]; rfl)
  · have hg : goodQ q = ⟨14, 1 + around q.id 9, 0, 0, 0, 0, 0, 0, cleanP (q.s.extract 0 (min q.s.size 20)), []⟩ := by unfold goodQ; rw [hk]; rfl
    have hsz : (cleanP (q.s.extract 0 (min q.s.size 20))).size ≤ 80 := by
      have h1 := outB_size (q.s.extract 0 (min q.s.size 20)) ((poss (q.s.extract 0 (min q.s.size 20))).take 64)
      have h2 := poss_len (q.s.extract 0 (min q.s.size 20))
      have h3 := ext20 q.s
      have h4 : ((poss (q.s.extract 0 (min q.s.size 20))).take 64).length ≤ 20 := by rw [List.length_take]; omega
      show (outB _ _).size ≤ 80
      omega
    rw [hg, encO_k mayT (k := 14) (by omega) rfl, enc_s (by omega) (by omega) (mayT_clean _)]
  · exact u 15 (around q.a 10) (by omega) rfl (fun _ => rfl) (by omega) (fun _ => rfl) (by unfold goodQ; rw [hk]; rfl)
  · exact n 16 (by omega) rfl (fun _ => rfl) (fun _ => rfl) (by unfold goodQ; rw [hk]; rfl)
  · exact i 17 (1 + around q.id 9) (by omega) (by omega) (good_id (by omega) (by omega)) rfl (fun _ _ _ => rfl) (fun _ _ _ => rfl) (by unfold goodQ; rw [hk]; rfl)
  · exact i 18 0 (by omega) (by omega) rfl rfl (fun _ _ _ => rfl) (fun _ _ _ => rfl) (by unfold goodQ; rw [hk]; rfl)
end Go.Proofs.YtinnaiofgbjicaaDoor
