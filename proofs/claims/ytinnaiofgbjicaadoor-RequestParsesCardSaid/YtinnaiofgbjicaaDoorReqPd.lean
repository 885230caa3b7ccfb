/- Rows of one's own in which no byte lies: no bytes that are read lie in their block. -/
import Derived.Test.YtinnaiofgbjicaaDoorTail
import Derived.Test.YtinnaiofgbjicaaDoorWWords
import Derived.Maps.AppendAt
import Derived.Test.YtinnaiofgbjicaaDoorOpenQ
import Derived.Test.YtinnaiofgbjicaaDoorReqV
import Derived.Test.YtinnaiofgbjicaaDoorFrG
import Derived.Test.YtinnaiofgbjicaaDoorReqZ
namespace Go.Proofs.YtinnaiofgbjicaaDoor
open Go.RowKit Go.Proofs.YtinnaiofgbjicaaDoorW.PrintWords
set_option linter.unusedSimpArgs false
set_option linter.unusedVariables false
set_option maxRecDepth 1000000
def NoBt (u : Value) : Prop := ∀ x, u ≠ .int .u8 x
def NoBs (w : World) (v : Value) : Prop := ∀ g, v.ownBlock = some g → ∃ cur t fr, w.heap[g]? = some (.cells cur t fr) ∧ ∀ u ∈ cur.toList, NoBt u
theorem NoBs.nil (w : World) : NoBs w (.slice none 0 0) := fun g hg => by simp [Value.ownBlock] at hg
theorem NoBs.below {w w1 : World} {v : Value} (h : NoBs w v) (hb : Below w.heap.size w w1) : NoBs w1 v := fun g hg => by
  obtain ⟨cur, t, fr, h1, h2⟩ := h g hg
  exact ⟨cur, t, fr, (hb.block g (Array.getElem?_eq_some_iff.1 h1).1).trans h1, h2⟩
theorem NoBs.apart {w : World} {v : Value} (h : NoBs w v) {ad : Addr} {x : Int} (hc : w.cell? ad = some (.int .u8 x)) : some ad.block ≠ v.ownBlock := fun e => by
  obtain ⟨cur, t, fr, h1, h2⟩ := h ad.block e.symm
  unfold World.cell? at hc
  rw [h1] at hc
  have hm : Value.int .u8 x ∈ cur.toList := by
    have hc' : ad.spot = none ∧ cur[ad.off]? = some (.int .u8 x) := by simpa using hc
    have := Array.mem_of_getElem? hc'.2
    simpa using this
  exact h2 _ hm x rfl
theorem zero_nob {z : Array Value} (hz : ∀ u ∈ z.toList, NoBt u) (hs : 0 < z.size) (k : Nat) : ∀ u ∈ (Builtin.zeroCells z k).toList, NoBt u := by
  intro u hu
  simp only [Builtin.zeroCells, Array.toList_map, List.mem_map] at hu
  obtain ⟨i, _, rfl⟩ := hu
  have hi : i % z.size < z.size := Nat.mod_lt _ hs
  rw [getElem!_pos z _ hi]
  exact hz _ (by simp)
theorem append_nob {P : Program} (w : World) (base : Nat) (t ty e : TypeId) (i : TypeInfo) (z : Value) (size bytes : Nat) (ht : P.underlying t = some (.slice e)) (hi : P.info? e = some i) (hz : i.zero = some z)
    (hsize : i.size = size) (hby : i.bytes = bytes) (hzs : z.cells.size = size) (hsz : 0 < size)
    (v : Value) (n : Nat) (xs : List Value) (hown : w.ownsRow base e size v n xs)
    (a : Addr) (c : Nat) (news : List Value) (hl : news.length = size) (hnews : ∀ j u, news[j]? = some u → w.cell? (a.add j) = some u) (h1 : ∀ u ∈ news, u.oneCell' = true)
    (hbytes : (n + 1) * bytes ≤ 140737488355328) (h63 : n + 1 ≤ maxLen) (hn0 : NoBs w v) (hn1 : ∀ u ∈ news, NoBt u) (hn2 : ∀ u ∈ z.cells.toList, NoBt u)
    (v' : Value) (w' : World) (hr : (Builtin.append_ #[t, t] ty #[v, .slice (some a) 1 c]).run P w = .ok v' w') : NoBs w' v' := by
  subst hsize
  subst hby
  simp only [maxLen] at h63
  have hl1 : news.length = 1 * i.size := by omega
  have fresh : ∀ (cap : Nat) (cur : Array Value), (∀ u ∈ cur.toList, NoBt u) → NoBs (w.drew.alloc (.cells cur e)) (.slice (some ⟨w.heap.size, 0, none⟩) (n + 1) cap) := fun cap cur hc g hg => by
    simp only [Value.ownBlock, Option.some.injEq] at hg
    subst hg
    exact ⟨cur, e, (0, 0), heap_alloc_new w.drew _, hc⟩
  rcases hown.2 with ⟨rfl, rfl⟩ | ⟨g, cap, cur, rfl, hbg, hg, hnc, hcm, hcs, htake⟩
  · have hx : xs = [] := List.eq_nil_of_length_eq_zero (by simpa using hown.1)
    subst hx
    have hr' := run_append_nil (P := P) w t ty e i z ht hi hz a 1 c news hl1 hnews (by omega) (by omega) (by have hb := hbytes; simp only [Nat.zero_add] at hb; omega)
    rw [hr] at hr'
    injection hr' with e1 e2
    subst e1 e2
    refine fresh _ _ fun u hu => ?_
    rw [Array.toList_append] at hu
    rcases List.mem_append.1 hu with hu | hu
    · exact hn1 u (by simpa using hu)
    · exact zero_nob hn2 (by omega) _ u hu
  · obtain ⟨cur', t', fr', hg', hcur⟩ := hn0 g rfl
    rw [hg] at hg'
    injection hg' with hg'
    injection hg' with hg' _ _
    subst hg'
    by_cases hroom : n + 1 ≤ cap
    · have hfit : n * i.size + news.length ≤ cur.size := by rw [hl1, hcs, ← Nat.add_mul]; exact Nat.mul_le_mul_right _ hroom
      have hr' := run_append_room (P := P) w t ty e i ht hi g n cap cur hg a 1 c news hl1 hnews h1 hroom hfit
      rw [hr] at hr'
      injection hr' with e1 e2
      subst e1 e2
      intro g' hg2
      simp only [Value.ownBlock, Option.some.injEq] at hg2
      subst hg2
      refine ⟨_, _, _, setRow_heap w g cur _ e _ hg, fun u hu => ?_⟩
      simp only [List.mem_append] at hu
      rcases hu with (hu | hu) | hu
      · exact hcur u (List.mem_of_mem_take hu)
      · exact hn1 u hu
      · exact hcur u (List.mem_of_mem_drop hu)
    · have holds : ∀ j u, xs[j]? = some u → w.cell? ((⟨g, 0, none⟩ : Addr).add j) = some u := hown.cells (g := g) rfl
      have hr' := run_append_grow (P := P) w t ty e i z ht hi hz ⟨g, 0, none⟩ n cap xs hown.1 holds a 1 c news hl1 hnews (by omega) (by omega) (growslice_fits (by omega) hbytes)
      rw [hr] at hr'
      injection hr' with e1 e2
      subst e1 e2
      refine fresh _ _ fun u hu => ?_
      simp only [Array.toList_append, List.mem_append] at hu
      rcases hu with (hu | hu) | hu
      · rw [← htake] at hu; exact hcur u (List.mem_of_mem_take (by simpa using hu))
      · exact hn1 u (by simpa using hu)
      · exact zero_nob hn2 (by omega) _ u hu
/-- One element behind others of one's own, no byte among them. -/
theorem append_nobs {P : Program} {ops : Array Oper} {rest : List Oper} {o : Oper} {a : Act} {Q : Exit → Act → World → Prop} {w0 W : World} (base : Nat) (hgd : o.guard = none) (s x : Operand) (t e : TypeId) (z : Value) (size bytes : Nat)
    (ho : o.op = .call { callee := .builtin .append, args := #[s, x], argTypes := #[t, t] })
    (ht : P.underlying t = some (.slice e)) (hinfo : (P.info? e).map (fun i => (i.zero, i.size, i.bytes)) = some (some z, size, bytes)) (hz : z.cells.size = size) (hs0 : 0 < size) (hb0 : 0 < bytes)
    (v : Value) (n : Nat) (xs ys : List Value) (hs : a.eval s = v) (hx : a.eval x = .slice (some ⟨W.heap.size, 0, none⟩) 1 1) (hys : ys.length = size) (h1 : ∀ u ∈ ys, u.oneCell' = true)
    (HO : W.ownsRow base e size v n xs) (HB : Below base w0 W) (hbase : base ≤ W.heap.size) (hl : (n + 1) * bytes ≤ 140737488355328) (hn0 : NoBs W v) (hn1 : ∀ u ∈ ys, NoBt u) (hn2 : ∀ u ∈ z.cells.toList, NoBt u)
    (h : ∀ v1 w1, w1.ownsRow base e size v1 (n + 1) (xs ++ ys) → Below base w0 w1 → W.grownBy w1 v.ownBlock → NoBs w1 v1 → wpList P ops Q rest (a.put o.dst v1) w1) :
    wpList P ops Q (o :: rest) a (W.alloc (.cells ys.toArray e)) := by
  obtain ⟨i0, hi, hzz⟩ := Option.map_eq_some_iff.1 hinfo
  simp only [Prod.mk.injEq] at hzz
  obtain ⟨hz0, hz1, hz2⟩ := hzz
  have hlen : n + 1 ≤ 140737488355328 := Nat.le_trans (Nat.le_mul_of_pos_right _ hb0) hl
  refine wpList_plain hgd fun K hK => ?_
  have hnw : ∀ j u, ys[j]? = some u → (W.alloc (.cells ys.toArray e)).cell? ((⟨W.heap.size, 0, none⟩ : Addr).add j) = some u := by simpa using World.news_of_block (cs := ys.toArray) (t := e) (fr := (0, 0)) (heap_alloc_new W (.cells ys.toArray e))
  have hm : n + 1 ≤ maxLen := by simp only [maxLen]; omega
  obtain ⟨v', w', hr, h2, h3, _, _⟩ := run_append_own_at (P := P) (W.alloc (.cells ys.toArray e)) base t o.type e i0 z size bytes ht hi hz0 hz1 hz2 hz hs0 v n xs (HO.alloc _) ⟨W.heap.size, 0, none⟩ 1 1 ys (by omega) hnw h1 hm hl (by simp; omega)
  have hnb := append_nob (P := P) (W.alloc (.cells ys.toArray e)) base t o.type e i0 z size bytes ht hi hz0 hz1 hz2 hz hs0 v n xs (HO.alloc _) ⟨W.heap.size, 0, none⟩ 1 ys hys hnw h1 hl hm (hn0.below (by exact (Below.refl _ W).alloc (Nat.le_refl _) _)) hn1 hn2 v' w' hr
  unfold Oper.wp execOp
  simp only [ho, resolve, invoke, builtin, Sem.run_bind, Sem.run_pure, Result.andThen_ok, List.map_toArray, List.map_cons, List.map_nil, hs, hx, hr]
  exact hK _ _ (h v' w' h2 ((HB.alloc hbase _).grown h3 (by simp; omega) (Go.Proofs.YtinnaiofgbjicaaDoorW.PrintWords.own_base HO)) (World.grownBy.trans (World.grownBy_alloc W _ _) h3) hnb)
end Go.Proofs.YtinnaiofgbjicaaDoor
namespace Go.Proofs.YtinnaiofgbjicaaDoor
open Go.RowKit Go.Proofs.YtinnaiofgbjicaaDoorW.PrintWords
set_option linter.unusedSimpArgs false
set_option linter.unusedVariables false
set_option maxRecDepth 1000000
def flatQ (L : List QH) : List Value := L.flatMap QH.cells
theorem flatQ_append (l m : List QH) : flatQ (l ++ m) = flatQ l ++ flatQ m := by simp [flatQ]
theorem flatQ_get (L : List QH) (i j : Nat) (hi : i < L.length) (hj : j < 10) : (flatQ L)[i * 10 + j]? = (L[i].cells)[j]? := by
  induction L generalizing i with
  | nil => simp at hi
  | cons h L ih =>
    have hl : h.cells.length = 10 := rfl
    show (h.cells ++ flatQ L)[i * 10 + j]? = _
    cases i with
    | zero => simp only [Nat.zero_mul, Nat.zero_add, List.getElem_cons_zero]; rw [List.getElem?_append_left (by omega)]
    | succ i =>
      rw [List.getElem?_append_right (by omega), show (i + 1) * 10 + j - h.cells.length = i * 10 + j by omega]
      exact ih i (by simpa using hi)
theorem QH.nob (h : QH) : ∀ u ∈ h.cells, NoBt u := by
  intro u hu x e
  subst e
  simp [QH.cells] at hu
theorem QH.one (h : QH) : ∀ u ∈ h.cells, u.oneCell' = true := by
  intro u hu
  simp only [QH.cells, List.mem_cons, List.mem_nil_iff, or_false] at hu
  rcases hu with rfl | rfl | rfl | rfl | rfl | rfl | rfl | rfl | rfl | rfl <;> rfl
theorem QH.below {w w1 : World} {h : QH} (hr : h.reads w) (hb : Below w.heap.size w w1) : h.reads w1 := ⟨hr.1, hr.2.below hb⟩
/-- A row of requests of the call's own; no byte lies in its block. -/
structure OwnQ (w : World) (base : Nat) (t : TypeId) (v : Value) (l : List Q9) : Prop where
  row : ∃ L : List QH, L.map (·.q) = l ∧ w.ownsRow base t 10 v L.length (flatQ L) ∧ ∀ h ∈ L, h.reads w
  nob : NoBs w v
theorem OwnQ.nil (w : World) (base : Nat) (t : TypeId) : OwnQ w base t (.slice none 0 0) [] := ⟨⟨[], rfl, own_nil _ _ _ _, fun h hh => by cases hh⟩, NoBs.nil w⟩
theorem OwnQ.below {w w1 : World} {base : Nat} {t : TypeId} {v : Value} {l : List Q9} (h : OwnQ w base t v l) (hb : Below w.heap.size w w1) : OwnQ w1 base t v l := by
  obtain ⟨⟨L, h0, h1, h2⟩, h3⟩ := h
  exact ⟨⟨L, h0, pw_own_below h1 hb, fun x hx => QH.below (h2 x hx) hb⟩, h3.below hb⟩
theorem OwnQ.mono {w : World} {b1 b2 : Nat} {t : TypeId} {v : Value} {l : List Q9} (h : OwnQ w b1 t v l) (hb : b2 ≤ b1) : OwnQ w b2 t v l := by
  obtain ⟨⟨L, h0, h1, h2⟩, h3⟩ := h
  exact ⟨⟨L, h0, own_less h1 hb, h2⟩, h3⟩
theorem QH.grown {W w1 : World} {v : Value} {h : QH} (hr : h.reads W) (hn : NoBs W v) (hg : W.grownBy w1 v.ownBlock) : h.reads w1 :=
  ⟨hr.1, hr.2.1, hr.2.2.1, fun h0 => by
    obtain ⟨ad, e, hc⟩ := hr.2.2.2 h0
    exact ⟨ad, e, fun j hj => hg.cell (hc j hj) (hn.apart (hc j hj))⟩⟩
theorem OwnQ.snoc {W w1 : World} {base : Nat} {t : TypeId} {v v1 : Value} {L : List QH} {l : List Q9} (x : QH) (hl : L.map (·.q) = l) (hL : ∀ h ∈ L, h.reads W) (hx : x.reads W) (hn : NoBs W v)
    (ho : w1.ownsRow base t 10 v1 (L.length + 1) (flatQ L ++ x.cells)) (hg : W.grownBy w1 v.ownBlock) (hn1 : NoBs w1 v1) : OwnQ w1 base t v1 (l ++ [x.q]) := by
  refine ⟨⟨L ++ [x], by simp [hl], ?_, fun h hh => ?_⟩, hn1⟩
  · have e : flatQ (L ++ [x]) = flatQ L ++ x.cells := by simp [flatQ]
    rw [e]; simpa using ho
  · rcases List.mem_append.1 hh with hh | hh
    · exact QH.grown (hL h hh) hn hg
    · rw [List.mem_singleton.1 hh]; exact QH.grown hx hn hg
/-- A request's cells at an address. -/
structure QAt (w : World) (a : Addr) (h : QH) : Prop where
  c0 : w.cell? a = some (.int .i64 h.q.op)
  c1 : w.cell? ⟨a.block, a.off + 1, none⟩ = some (.int .i64 h.q.id)
  c2 : w.cell? ⟨a.block, a.off + 2, none⟩ = some (.int .i64 h.q.a)
  c3 : w.cell? ⟨a.block, a.off + 3, none⟩ = some (.int .i64 h.q.b)
  c4 : w.cell? ⟨a.block, a.off + 4, none⟩ = some (.int .i64 h.q.x0)
  c5 : w.cell? ⟨a.block, a.off + 5, none⟩ = some (.int .i64 h.q.y0)
  c6 : w.cell? ⟨a.block, a.off + 6, none⟩ = some (.int .i64 h.q.x1)
  c7 : w.cell? ⟨a.block, a.off + 7, none⟩ = some (.int .i64 h.q.y1)
  c8 : w.cell? ⟨a.block, a.off + 8, none⟩ = some (.string h.q.s)
  c9 : w.cell? ⟨a.block, a.off + 9, none⟩ = some (.slice h.A h.q.d.length h.m)
theorem QAt.below {w w1 : World} {a : Addr} {h : QH} (hq : QAt w a h) (hb : Below w.heap.size w w1) : QAt w1 a h :=
  ⟨pw_cell_below hb hq.c0, pw_cell_below hb hq.c1, pw_cell_below hb hq.c2, pw_cell_below hb hq.c3, pw_cell_below hb hq.c4, pw_cell_below hb hq.c5, pw_cell_below hb hq.c6, pw_cell_below hb hq.c7, pw_cell_below hb hq.c8, pw_cell_below hb hq.c9⟩
/-- A row of requests, read. -/
def QRow (w : World) (A : Option Addr) (l : List Q9) : Prop := ∀ i (hi : i < l.length), ∃ ad h, A = some ad ∧ h.q = l[i] ∧ QH.reads w h ∧ QAt w (ad.add (i * 10)) h
theorem QRow.below {w w1 : World} {A : Option Addr} {l : List Q9} (h : QRow w A l) (hb : Below w.heap.size w w1) : QRow w1 A l := by
  intro i hi
  obtain ⟨ad, q, rfl, h0, h1, h2⟩ := h i hi
  exact ⟨ad, q, rfl, h0, QH.below h1 hb, h2.below hb⟩
theorem OwnQ.rd {w : World} {base : Nat} {t : TypeId} {v : Value} {l : List Q9} (h : OwnQ w base t v l) : ∃ A c, v = .slice A l.length c ∧ l.length ≤ c ∧ QRow w A l := by
  obtain ⟨⟨L, rfl, h1, h2⟩, h3⟩ := h
  obtain ⟨A, c, rfl⟩ := own_slice h1
  refine ⟨A, c, by simp, by have := own_le h1; simpa using this, fun i hi => ?_⟩
  have hi' : i < L.length := by simpa using hi
  obtain ⟨g, cap, e, _⟩ := h1.form (by omega)
  injection e with e1 e2 e3
  subst e1
  have key : ∀ j u, j < 10 → (L[i].cells)[j]? = some u → w.cell? ⟨g, i * 10 + j, none⟩ = some u := fun j u hj hu => by
    have := h1.cells (g := g) rfl (i * 10 + j) u (by rw [flatQ_get L i j hi' hj]; exact hu)
    rwa [add_p] at this
  refine ⟨_, L[i], rfl, by simp, h2 _ (List.getElem_mem _), ?_⟩
  rw [add_p]
  exact ⟨key 0 _ (by omega) rfl, key 1 _ (by omega) rfl, key 2 _ (by omega) rfl, key 3 _ (by omega) rfl, key 4 _ (by omega) rfl, key 5 _ (by omega) rfl, key 6 _ (by omega) rfl, key 7 _ (by omega) rfl, key 8 _ (by omega) rfl, key 9 _ (by omega) rfl⟩
theorem info_qq : (Tryd.prog.info? 36).map (fun i => (i.zero, i.size, i.bytes)) = some (some (.agg #[.int .i64 0, .int .i64 0, .int .i64 0, .int .i64 0, .int .i64 0, .int .i64 0, .int .i64 0, .int .i64 0, .string { data := #[] }, .slice none 0 0]), 10, 104) := by kernel_rfl
theorem info_qr : (Tryd.prog.info? 28).map (fun i => (i.zero, i.size, i.bytes)) = some (some (.agg #[.int .i64 0, .int .i64 0, .int .i64 0, .int .i64 0, .int .i64 0, .int .i64 0, .int .i64 0, .int .i64 0, .string { data := #[] }, .slice none 0 0]), 10, 104) := by kernel_rfl
theorem zeroQ_nob : ∀ u ∈ (Value.cells (.agg #[.int .i64 0, .int .i64 0, .int .i64 0, .int .i64 0, .int .i64 0, .int .i64 0, .int .i64 0, .int .i64 0, .string { data := #[] }, .slice none 0 0])).toList, NoBt u := by
  intro u hu x e
  subst e
  simp [Value.cells] at hu
end Go.Proofs.YtinnaiofgbjicaaDoor
namespace Go.Proofs.YtinnaiofgbjicaaDoor
open Go.RowKit Go.Proofs.YtinnaiofgbjicaaDoorW.PrintWords
set_option linter.unusedSimpArgs false
set_option linter.unusedVariables false
set_option maxRecDepth 1000000
/-- All requests of messages, up to the first error; e, where there is none. -/
def parseL : List M3 → Int → List Q9 × Int
  | [], e => ([], e)
  | m :: L, e => if (decO mayT m.op m.id m.b).1 = 0 then ((decO mayT m.op m.id m.b).2 :: (parseL L e).1, (parseL L e).2) else ([], (decO mayT m.op m.id m.b).1)
def parseP (b : List Int) : List Q9 × Int := parseL (splitP b).1 (splitP b).2.2
/-- What has come of the first k messages. -/
def ParAt (L : List M3) (e : Int) (k : Nat) (l : List Q9) : Prop := parseL L e = (l ++ (parseL (L.drop k) e).1, (parseL (L.drop k) e).2)
theorem ParAt.start (L : List M3) (e : Int) : ParAt L e 0 [] := by simp [ParAt]
theorem ParAt.step {L : List M3} {e : Int} {k : Nat} {l : List Q9} {q : Q9} (h : ParAt L e k l) (hk : k < L.length) (hd : decO mayT (L[k].op) (L[k].id) (L[k].b) = (0, q)) : ParAt L e (k + 1) (l ++ [q]) := by
  unfold ParAt at *
  rw [h, List.drop_eq_getElem_cons hk]
  simp only [parseL]
  rw [hd, if_pos rfl]
  simp
theorem ParAt.stop {L : List M3} {e : Int} {k : Nat} {l : List Q9} {i : Int} {q : Q9} (h : ParAt L e k l) (hk : k < L.length) (hd : decO mayT (L[k].op) (L[k].id) (L[k].b) = (i, q)) (hi : i ≠ 0) : parseL L e = (l, i) := by
  unfold ParAt at *
  rw [h, List.drop_eq_getElem_cons hk]
  simp only [parseL]
  rw [hd, if_neg hi]
  simp
theorem ParAt.end_ {L : List M3} {e : Int} {l : List Q9} (h : ParAt L e L.length l) : parseL L e = (l, e) := by
  unfold ParAt at h
  rw [h, List.drop_length]
  simp [parseL]
def MsgOk (m : M3) : Prop := m.b.length ≤ 1000000 ∧ Byt m.b
theorem readP_msg {b : List Int} {m : M3} {n : Nat} (hb : Byt b) (h : readP b = .inr (m, n)) : MsgOk m := by
  rcases readP_cases b hb with h1 | ⟨h1, hn⟩ | ⟨h1, h7, h8, hl⟩ | ⟨h1, k, hk, h7, h8, hl⟩
  · rw [readP_short h1] at h; cases h
  · rw [readP_form h1 hn] at h; cases h
  · rw [readP_less h1 h7 h8 hl] at h; cases h
  · rw [readP_ok h1 hk h7 h8 hl] at h; injection h with h; injection h with e1 e2
    subst e1
    refine ⟨?_, (hb.take k).drop 7⟩
    simp only [List.length_drop, List.length_take]; omega
theorem splitF_msgs : ∀ (f : Nat) (b : List Int), Byt b → (splitF f b).1.length ≤ b.length ∧ ∀ m ∈ (splitF f b).1, MsgOk m
  | 0, b, _ => ⟨by simp [splitF], fun m hm => by cases hm⟩
  | f + 1, b, hb => by
    unfold splitF
    split
    · exact ⟨by simp, fun m hm => by cases hm⟩
    · split
      · exact ⟨by simp, fun m hm => by cases hm⟩
      · rename_i m n hr
        have ih := splitF_msgs f (b.drop n) (hb.drop n)
        have hn := readP_n hb hr
        simp only [List.length_cons, List.length_drop] at ih ⊢
        refine ⟨by omega, fun x hx => ?_⟩
        rcases List.mem_cons.1 hx with rfl | hx
        · exact readP_msg hb hr
        · exact ih.2 x hx
theorem splitP_msgs (b : List Int) (hb : Byt b) : (splitP b).1.length ≤ b.length ∧ ∀ m ∈ (splitP b).1, MsgOk m := splitF_msgs _ b hb
def ParP (w : World) (t : TypeId) (r : List Q9 × Int) (e : Ending) (w' : World) : Prop := ∃ v, e = .returned (.tuple #[v, .int .i64 r.2]) ∧ OwnQ w' w.heap.size t v r.1 ∧ Below w.heap.size w w'
theorem ParP.mk {w w' : World} {t : TypeId} {r : List Q9 × Int} {i : Int} {l : List Q9} {v : Value} (h : r = (l, i)) (ho : OwnQ w' w.heap.size t v l) (hb : Below w.heap.size w w') : ParP w t r (.returned (.tuple #[v, .int .i64 i])) w' := by
  subst h; exact ⟨v, rfl, ho, hb⟩
end Go.Proofs.YtinnaiofgbjicaaDoor
namespace Go.Proofs.YtinnaiofgbjicaaDoor
open Go.RowKit Go.Proofs.YtinnaiofgbjicaaDoorW.PrintWords
set_option linter.unusedSimpArgs false
set_option linter.unusedVariables false
set_option maxRecDepth 1000000
set_option maxHeartbeats 4000000 in
theorem q_Parse (A : Option Addr) (b : List Int) (c : Nat) (w : World) (hs : BS w A b c) (hn : b.length ≤ 1000000) (hT : Lib.Utf8Tabs 2 3 w) : Calls Tryd.prog 30 #[.slice A b.length c] w (ParP w 36 (parseP b)) := by
  rcases hsp : splitP b with ⟨L, n, er⟩
  have HPP := Lib.hid (show parseP b = parseL L er from by unfold parseP; rw [hsp])
  have cS : Calls Tryd.prog 56 #[.slice A b.length c] w (fun e w' => ∃ v, e = .returned (.tuple #[v, .int .i64 n, .int .i64 er]) ∧ OwnM w' w.heap.size v L ∧ Below w.heap.size w w') := by
    have := frame_Split A b c w hs hn
    rw [hsp] at this; exact this
  have hms := splitP_msgs b hs.byt
  rw [hsp] at hms
  have hLn : L.length ≤ 1000000 := by have := hms.1; simp only at this; omega
  have HMS := Lib.hid hms.2
  have HT := Lib.hid hT
  clear hsp hs hms hT
  go_enter Tryd.func30, Tryd.ntmps30
  go_wp2_with (first | (go_at_call 56; (with_reducible refine cS.mono ?_); rintro en w1 ⟨v1, rfl, ho1, hb1⟩; obtain ⟨A1, c1, rfl, hlc1, hr1⟩ := ho1.row; clear ho1; have hz1 := hb1.size; replace hr1 := Lib.hid hr1))
  go_loopw [7, 20] (fun v i wr => ∃ (k : Nat) (l : List Q9), k ≤ L.length ∧ i = .int .i64 k ∧ l.length = k ∧ Hid (ParAt L er k l) ∧ Below w1.heap.size w1 wr ∧ Hid (OwnQ wr w1.heap.size 36 v l)) (fun _ i _ => L.length - (intOf i).toNat)
  case atStart => exact ⟨0, [], by omega, rfl, rfl, Lib.hid (ParAt.start _ _), Below.refl _ _, Lib.hid (OwnQ.nil _ _ _)⟩
  case round =>
    obtain ⟨k, l, hk, rfl, hll, hpa, hbr, hown⟩ := hrel
    have hzr := hbr.size
    have HB1 := Lib.hid hb1
    have HBR := Lib.hid hbr
    by_cases hlt : k < L.length
    · obtain ⟨ad, Ab, cb, rfl, f0, f1, f2, hbs⟩ := hr1.out k hlt
      have q0 := pw_cell_below hbr f0; have q1 := pw_cell_below hbr f1; have q2 := pw_cell_below hbr f2
      have hmk := HMS.out _ (List.getElem_mem hlt)
      have HSS := Lib.hid (fun q hd => ParAt.step (q := q) hpa.out hlt hd)
      have HSE := Lib.hid (fun i q hd hi => ParAt.stop (i := i) (q := q) hpa.out hlt hd hi)
      generalize L[k] = m at *
      have cD := fun w' (hb : Below w1.heap.size w1 w') => q_Decode (Utf8Tabs_below HT.out (HB1.out.trans (hb.mono hz1))) m.op m.id Ab m.b cb (hbs.below hb) hmk.1
      clear f0 f1 f2 hbs hmk
      rcases hd : decO mayT m.op m.id m.b with ⟨i, q⟩
      rw [hd] at cD HSS HSE
      unfold DecPost at cD
      simp only at cD
      have hlo := lt_of_cell q0
      by_cases h0 : i = 0
      · subst h0
        have HU := Lib.hid (HSS.out q rfl)
        clear hd HSS HSE
        obtain ⟨⟨LQ, hLq, hro, hrr⟩, hnob⟩ := hown.out
        have hLl : LQ.length ≤ 1000000 := by have := congrArg List.length hLq; simp at this; omega
        replace hLq := Lib.hid hLq
        replace hro := Lib.hid hro
        replace hrr := Lib.hid hrr
        replace hnob := Lib.hid hnob
        clear hb1
        go_wp2_with (first | (go_at_call 15; (with_reducible refine (cD _ ?_).mono ?_); (focus ((repeat (first | (with_reducible exact Below.refl _ _) | ((with_reducible refine Below.alloc ?_ ?hB _); (case hB => (first | omega | (simp; done) | (simp; omega)))) | ((with_reducible refine Below.setCell ?_ ?hB _); (case hB => (first | omega | (simp; done) | (simp; omega)))) | (with_reducible refine Below.drew ?_) | ((with_reducible refine below_ext_of ?_ ?hB); (case hB => (first | omega | (simp; done) | (simp; omega)))) | ((with_reducible refine Below.trans ?_ (Below.mono (by assumption) ?hB)); (case hB => (first | omega | (simp; done) | (simp; omega)))))); done)); rintro en w3 ⟨DA, dc, rfl, hld, hrd, hb3⟩; replace hld := Lib.hid hld; replace hrd := Lib.hid hrd; obtain ⟨hc3, hf3⟩ := bcell hb3; have hz3 := hb3.size; (try simp only [World.size_alloc, World.size_setCell, World.size_drew] at hz3)) | (at_builtin; refine append_nobs (w0 := w1) w1.heap.size rfl _ _ 65 36 _ 10 104 rfl Tryd.underlying65 info_qq rfl (by decide) (by decide) _ LQ.length (flatQ LQ) [.int .i64 q.op, .int .i64 q.id, .int .i64 q.a, .int .i64 q.b, .int .i64 q.x0, .int .i64 q.y0, .int .i64 q.x1, .int .i64 q.y1, .string q.s, .slice DA q.d.length dc] rfl ?_ rfl (QH.one ⟨q, DA, dc⟩) (pw_own_below hro.out ?_) ?_ ?_ ?_ (NoBs.below hnob.out ?_) (QH.nob ⟨q, DA, dc⟩) zeroQ_nob ?_; (focus (go_simp; done)); (focus ((repeat (first | (with_reducible exact Below.refl _ _) | ((with_reducible refine Below.alloc ?_ ?hB _); (case hB => (first | omega | (simp; done) | (simp; omega)))) | ((with_reducible refine Below.setCell ?_ ?hB _); (case hB => (first | omega | (simp; done) | (simp; omega)))) | (with_reducible refine Below.drew ?_) | ((with_reducible refine below_ext_of ?_ ?hB); (case hB => (first | omega | (simp; done) | (simp; omega)))) | ((with_reducible refine Below.trans ?_ (Below.mono (by assumption) ?hB)); (case hB => (first | omega | (simp; done) | (simp; omega)))))); done)); (focus ((repeat (first | (with_reducible exact Below.refl _ _) | ((with_reducible refine Below.alloc ?_ ?hB _); (case hB => (first | omega | (simp; done) | (simp; omega)))) | ((with_reducible refine Below.setCell ?_ ?hB _); (case hB => (first | omega | (simp; done) | (simp; omega)))) | (with_reducible refine Below.drew ?_) | ((with_reducible refine below_ext_of ?_ ?hB); (case hB => (first | omega | (simp; done) | (simp; omega)))) | ((with_reducible refine Below.trans ?_ (Below.mono (by assumption) ?hB)); (case hB => (first | omega | (simp; done) | (simp; omega)))))); done)); (focus ((first | omega | (simp; done) | (simp; omega)); done)); (focus omega); (focus ((repeat (first | (with_reducible exact Below.refl _ _) | ((with_reducible refine Below.alloc ?_ ?hB _); (case hB => (first | omega | (simp; done) | (simp; omega)))) | ((with_reducible refine Below.setCell ?_ ?hB _); (case hB => (first | omega | (simp; done) | (simp; omega)))) | (with_reducible refine Below.drew ?_) | ((with_reducible refine below_ext_of ?_ ?hB); (case hB => (first | omega | (simp; done) | (simp; omega)))) | ((with_reducible refine Below.trans ?_ (Below.mono (by assumption) ?hB)); (case hB => (first | omega | (simp; done) | (simp; omega)))))); done)); intro v5 w5 hown5 hb5 hg5 hnb5; have hz5 := hb5.size))
        go_roundw
        case rel =>
          refine ⟨k + 1, l ++ [q], by omega, by go_num, by simp; omega, HU, hb5, Lib.hid (OwnQ.snoc ⟨q, DA, dc⟩ hLq.out (fun h hh => QH.below (hrr.out h hh) ?_) ⟨hld.out, hrd.out.below ?_⟩ (hnob.out.below ?_) hown5 hg5 hnb5)⟩
          · (repeat (first | (with_reducible exact Below.refl _ _) | ((with_reducible refine Below.alloc ?_ ?hB _); (case hB => (first | omega | (simp; done) | (simp; omega)))) | ((with_reducible refine Below.setCell ?_ ?hB _); (case hB => (first | omega | (simp; done) | (simp; omega)))) | (with_reducible refine Below.drew ?_) | ((with_reducible refine below_ext_of ?_ ?hB); (case hB => (first | omega | (simp; done) | (simp; omega)))) | ((with_reducible refine Below.trans ?_ (Below.mono (by assumption) ?hB)); (case hB => (first | omega | (simp; done) | (simp; omega))))))
          · (repeat (first | (with_reducible exact Below.refl _ _) | ((with_reducible refine Below.alloc ?_ ?hB _); (case hB => (first | omega | (simp; done) | (simp; omega)))) | ((with_reducible refine Below.setCell ?_ ?hB _); (case hB => (first | omega | (simp; done) | (simp; omega)))) | (with_reducible refine Below.drew ?_) | ((with_reducible refine below_ext_of ?_ ?hB); (case hB => (first | omega | (simp; done) | (simp; omega)))) | ((with_reducible refine Below.trans ?_ (Below.mono (by assumption) ?hB)); (case hB => (first | omega | (simp; done) | (simp; omega))))))
          · (repeat (first | (with_reducible exact Below.refl _ _) | ((with_reducible refine Below.alloc ?_ ?hB _); (case hB => (first | omega | (simp; done) | (simp; omega)))) | ((with_reducible refine Below.setCell ?_ ?hB _); (case hB => (first | omega | (simp; done) | (simp; omega)))) | (with_reducible refine Below.drew ?_) | ((with_reducible refine below_ext_of ?_ ?hB); (case hB => (first | omega | (simp; done) | (simp; omega)))) | ((with_reducible refine Below.trans ?_ (Below.mono (by assumption) ?hB)); (case hB => (first | omega | (simp; done) | (simp; omega))))))
        case measure => simp [intOf]; omega
      · have HU := Lib.hid (HSE.out i q rfl h0)
        have hi0 : (i == 0) = false := by simp [h0]
        have hi1 : (i != 0) = true := by simp [h0]
        clear hd HSS HSE hb1
        go_wp2_with (first | (go_at_call 15; (with_reducible refine (cD _ ?_).mono ?_); (focus ((repeat (first | (with_reducible exact Below.refl _ _) | ((with_reducible refine Below.alloc ?_ ?hB _); (case hB => (first | omega | (simp; done) | (simp; omega)))) | ((with_reducible refine Below.setCell ?_ ?hB _); (case hB => (first | omega | (simp; done) | (simp; omega)))) | (with_reducible refine Below.drew ?_) | ((with_reducible refine below_ext_of ?_ ?hB); (case hB => (first | omega | (simp; done) | (simp; omega)))) | ((with_reducible refine Below.trans ?_ (Below.mono (by assumption) ?hB)); (case hB => (first | omega | (simp; done) | (simp; omega)))))); done)); rintro en w3 ⟨DA, dc, rfl, hld, hrd, hb3⟩; replace hld := Lib.hid hld; replace hrd := Lib.hid hrd; obtain ⟨hc3, hf3⟩ := bcell hb3; have hz3 := hb3.size; (try simp only [World.size_alloc, World.size_setCell, World.size_drew] at hz3)))
        go_ret2
        rw [HPP.out]
        exact ParP.mk HU.out ((hown.out.below (by (repeat (first | (with_reducible exact Below.refl _ _) | ((with_reducible refine Below.alloc ?_ ?hB _); (case hB => (first | omega | (simp; done) | (simp; omega)))) | ((with_reducible refine Below.setCell ?_ ?hB _); (case hB => (first | omega | (simp; done) | (simp; omega)))) | (with_reducible refine Below.drew ?_) | ((with_reducible refine below_ext_of ?_ ?hB); (case hB => (first | omega | (simp; done) | (simp; omega)))) | ((with_reducible refine Below.trans ?_ (Below.mono (by assumption) ?hB)); (case hB => (first | omega | (simp; done) | (simp; omega)))))))).mono hz1) (HB1.out.trans (Below.mono (HBR.out.trans (Below.mono (show Below wr.heap.size wr _ from by (repeat (first | (with_reducible exact Below.refl _ _) | ((with_reducible refine Below.alloc ?_ ?hB _); (case hB => (first | omega | (simp; done) | (simp; omega)))) | ((with_reducible refine Below.setCell ?_ ?hB _); (case hB => (first | omega | (simp; done) | (simp; omega)))) | (with_reducible refine Below.drew ?_) | ((with_reducible refine below_ext_of ?_ ?hB); (case hB => (first | omega | (simp; done) | (simp; omega)))) | ((with_reducible refine Below.trans ?_ (Below.mono (by assumption) ?hB)); (case hB => (first | omega | (simp; done) | (simp; omega))))))) hzr)) hz1))
    · obtain rfl : k = L.length := by omega
      clear hb1
      go_wp2
      go_ret2
      rw [HPP.out]
      exact ParP.mk (ParAt.end_ hpa.out) (hown.out.mono hz1) (HB1.out.trans (HBR.out.mono hz1))
set_option maxHeartbeats 4000000 in
theorem r_Parse (A : Option Addr) (b : List Int) (c : Nat) (w : World) (hs : BS w A b c) (hn : b.length ≤ 1000000) : Calls Tryd.prog 31 #[.slice A b.length c] w (ParP w 28 (parseP b)) := by
  rcases hsp : splitP b with ⟨L, n, er⟩
  have HPP := Lib.hid (show parseP b = parseL L er from by unfold parseP; rw [hsp])
  have cS : Calls Tryd.prog 57 #[.slice A b.length c] w (fun e w' => ∃ v, e = .returned (.tuple #[v, .int .i64 n, .int .i64 er]) ∧ OwnM w' w.heap.size v L ∧ Below w.heap.size w w') := by
    have := ref_Split A b c w hs hn
    rw [hsp] at this; exact this
  have hms := splitP_msgs b hs.byt
  rw [hsp] at hms
  have hLn : L.length ≤ 1000000 := by have := hms.1; simp only at this; omega
  have HMS := Lib.hid hms.2
  clear hsp hs hms
  go_enter Tryd.func31, Tryd.ntmps31
  go_wp2_with (first | (go_at_call 57; (with_reducible refine cS.mono ?_); rintro en w1 ⟨v1, rfl, ho1, hb1⟩; obtain ⟨A1, c1, rfl, hlc1, hr1⟩ := ho1.row; clear ho1; have hz1 := hb1.size; replace hr1 := Lib.hid hr1))
  go_loopw [7, 8] (fun v i wr => ∃ (k : Nat) (l : List Q9), k ≤ L.length ∧ i = .int .i64 k ∧ l.length = k ∧ Hid (ParAt L er k l) ∧ Below w1.heap.size w1 wr ∧ Hid (OwnQ wr w1.heap.size 28 v l)) (fun _ i _ => L.length - (intOf i).toNat)
  case atStart => exact ⟨0, [], by omega, rfl, rfl, Lib.hid (ParAt.start _ _), Below.refl _ _, Lib.hid (OwnQ.nil _ _ _)⟩
  case round =>
    obtain ⟨k, l, hk, rfl, hll, hpa, hbr, hown⟩ := hrel
    have hzr := hbr.size
    have HB1 := Lib.hid hb1
    have HBR := Lib.hid hbr
    by_cases hlt : k < L.length
    · obtain ⟨ad, Ab, cb, rfl, f0, f1, f2, hbs⟩ := hr1.out k hlt
      have q0 := pw_cell_below hbr f0; have q1 := pw_cell_below hbr f1; have q2 := pw_cell_below hbr f2
      have hmk := HMS.out _ (List.getElem_mem hlt)
      have HSS := Lib.hid (fun q hd => ParAt.step (q := q) hpa.out hlt hd)
      have HSE := Lib.hid (fun i q hd hi => ParAt.stop (i := i) (q := q) hpa.out hlt hd hi)
      generalize L[k] = m at *
      have cD := fun w' (hb : Below w1.heap.size w1 w') => r_Decode m.op m.id Ab m.b cb w' (hbs.below hb) hmk.1
      clear f0 f1 f2 hbs hmk
      rcases hd : decO mayT m.op m.id m.b with ⟨i, q⟩
      rw [hd] at cD HSS HSE
      unfold DecPost at cD
      simp only at cD
      have hlo := lt_of_cell q0
      by_cases h0 : i = 0
      · subst h0
        have HU := Lib.hid (HSS.out q rfl)
        clear hd HSS HSE
        obtain ⟨⟨LQ, hLq, hro, hrr⟩, hnob⟩ := hown.out
        have hLl : LQ.length ≤ 1000000 := by have := congrArg List.length hLq; simp at this; omega
        replace hLq := Lib.hid hLq
        replace hro := Lib.hid hro
        replace hrr := Lib.hid hrr
        replace hnob := Lib.hid hnob
        clear hb1
        go_wp2_with (first | (go_at_call 16; (with_reducible refine (cD _ ?_).mono ?_); (focus ((repeat (first | (with_reducible exact Below.refl _ _) | ((with_reducible refine Below.alloc ?_ ?hB _); (case hB => (first | omega | (simp; done) | (simp; omega)))) | ((with_reducible refine Below.setCell ?_ ?hB _); (case hB => (first | omega | (simp; done) | (simp; omega)))) | (with_reducible refine Below.drew ?_) | ((with_reducible refine below_ext_of ?_ ?hB); (case hB => (first | omega | (simp; done) | (simp; omega)))) | ((with_reducible refine Below.trans ?_ (Below.mono (by assumption) ?hB)); (case hB => (first | omega | (simp; done) | (simp; omega)))))); done)); rintro en w3 ⟨DA, dc, rfl, hld, hrd, hb3⟩; replace hld := Lib.hid hld; replace hrd := Lib.hid hrd; obtain ⟨hc3, hf3⟩ := bcell hb3; have hz3 := hb3.size; (try simp only [World.size_alloc, World.size_setCell, World.size_drew] at hz3)) | (at_builtin; refine append_nobs (w0 := w1) w1.heap.size rfl _ _ 62 28 _ 10 104 rfl Tryd.underlying62 info_qr rfl (by decide) (by decide) _ LQ.length (flatQ LQ) [.int .i64 q.op, .int .i64 q.id, .int .i64 q.a, .int .i64 q.b, .int .i64 q.x0, .int .i64 q.y0, .int .i64 q.x1, .int .i64 q.y1, .string q.s, .slice DA q.d.length dc] rfl ?_ rfl (QH.one ⟨q, DA, dc⟩) (pw_own_below hro.out ?_) ?_ ?_ ?_ (NoBs.below hnob.out ?_) (QH.nob ⟨q, DA, dc⟩) zeroQ_nob ?_; (focus (go_simp; done)); (focus ((repeat (first | (with_reducible exact Below.refl _ _) | ((with_reducible refine Below.alloc ?_ ?hB _); (case hB => (first | omega | (simp; done) | (simp; omega)))) | ((with_reducible refine Below.setCell ?_ ?hB _); (case hB => (first | omega | (simp; done) | (simp; omega)))) | (with_reducible refine Below.drew ?_) | ((with_reducible refine below_ext_of ?_ ?hB); (case hB => (first | omega | (simp; done) | (simp; omega)))) | ((with_reducible refine Below.trans ?_ (Below.mono (by assumption) ?hB)); (case hB => (first | omega | (simp; done) | (simp; omega)))))); done)); (focus ((repeat (first | (with_reducible exact Below.refl _ _) | ((with_reducible refine Below.alloc ?_ ?hB _); (case hB => (first | omega | (simp; done) | (simp; omega)))) | ((with_reducible refine Below.setCell ?_ ?hB _); (case hB => (first | omega | (simp; done) | (simp; omega)))) | (with_reducible refine Below.drew ?_) | ((with_reducible refine below_ext_of ?_ ?hB); (case hB => (first | omega | (simp; done) | (simp; omega)))) | ((with_reducible refine Below.trans ?_ (Below.mono (by assumption) ?hB)); (case hB => (first | omega | (simp; done) | (simp; omega)))))); done)); (focus ((first | omega | (simp; done) | (simp; omega)); done)); (focus omega); (focus ((repeat (first | (with_reducible exact Below.refl _ _) | ((with_reducible refine Below.alloc ?_ ?hB _); (case hB => (first | omega | (simp; done) | (simp; omega)))) | ((with_reducible refine Below.setCell ?_ ?hB _); (case hB => (first | omega | (simp; done) | (simp; omega)))) | (with_reducible refine Below.drew ?_) | ((with_reducible refine below_ext_of ?_ ?hB); (case hB => (first | omega | (simp; done) | (simp; omega)))) | ((with_reducible refine Below.trans ?_ (Below.mono (by assumption) ?hB)); (case hB => (first | omega | (simp; done) | (simp; omega)))))); done)); intro v5 w5 hown5 hb5 hg5 hnb5; have hz5 := hb5.size))
        go_roundw
        case rel =>
          refine ⟨k + 1, l ++ [q], by omega, by go_num, by simp; omega, HU, hb5, Lib.hid (OwnQ.snoc ⟨q, DA, dc⟩ hLq.out (fun h hh => QH.below (hrr.out h hh) ?_) ⟨hld.out, hrd.out.below ?_⟩ (hnob.out.below ?_) hown5 hg5 hnb5)⟩
          · (repeat (first | (with_reducible exact Below.refl _ _) | ((with_reducible refine Below.alloc ?_ ?hB _); (case hB => (first | omega | (simp; done) | (simp; omega)))) | ((with_reducible refine Below.setCell ?_ ?hB _); (case hB => (first | omega | (simp; done) | (simp; omega)))) | (with_reducible refine Below.drew ?_) | ((with_reducible refine below_ext_of ?_ ?hB); (case hB => (first | omega | (simp; done) | (simp; omega)))) | ((with_reducible refine Below.trans ?_ (Below.mono (by assumption) ?hB)); (case hB => (first | omega | (simp; done) | (simp; omega))))))
          · (repeat (first | (with_reducible exact Below.refl _ _) | ((with_reducible refine Below.alloc ?_ ?hB _); (case hB => (first | omega | (simp; done) | (simp; omega)))) | ((with_reducible refine Below.setCell ?_ ?hB _); (case hB => (first | omega | (simp; done) | (simp; omega)))) | (with_reducible refine Below.drew ?_) | ((with_reducible refine below_ext_of ?_ ?hB); (case hB => (first | omega | (simp; done) | (simp; omega)))) | ((with_reducible refine Below.trans ?_ (Below.mono (by assumption) ?hB)); (case hB => (first | omega | (simp; done) | (simp; omega))))))
          · (repeat (first | (with_reducible exact Below.refl _ _) | ((with_reducible refine Below.alloc ?_ ?hB _); (case hB => (first | omega | (simp; done) | (simp; omega)))) | ((with_reducible refine Below.setCell ?_ ?hB _); (case hB => (first | omega | (simp; done) | (simp; omega)))) | (with_reducible refine Below.drew ?_) | ((with_reducible refine below_ext_of ?_ ?hB); (case hB => (first | omega | (simp; done) | (simp; omega)))) | ((with_reducible refine Below.trans ?_ (Below.mono (by assumption) ?hB)); (case hB => (first | omega | (simp; done) | (simp; omega))))))
        case measure => simp [intOf]; omega
      · have HU := Lib.hid (HSE.out i q rfl h0)
        have hi0 : (i == 0) = false := by simp [h0]
        have hi1 : (i != 0) = true := by simp [h0]
        clear hd HSS HSE hb1
        go_wp2_with (first | (go_at_call 16; (with_reducible refine (cD _ ?_).mono ?_); (focus ((repeat (first | (with_reducible exact Below.refl _ _) | ((with_reducible refine Below.alloc ?_ ?hB _); (case hB => (first | omega | (simp; done) | (simp; omega)))) | ((with_reducible refine Below.setCell ?_ ?hB _); (case hB => (first | omega | (simp; done) | (simp; omega)))) | (with_reducible refine Below.drew ?_) | ((with_reducible refine below_ext_of ?_ ?hB); (case hB => (first | omega | (simp; done) | (simp; omega)))) | ((with_reducible refine Below.trans ?_ (Below.mono (by assumption) ?hB)); (case hB => (first | omega | (simp; done) | (simp; omega)))))); done)); rintro en w3 ⟨DA, dc, rfl, hld, hrd, hb3⟩; replace hld := Lib.hid hld; replace hrd := Lib.hid hrd; obtain ⟨hc3, hf3⟩ := bcell hb3; have hz3 := hb3.size; (try simp only [World.size_alloc, World.size_setCell, World.size_drew] at hz3)))
        go_ret2
        rw [HPP.out]
        exact ParP.mk HU.out ((hown.out.below (by (repeat (first | (with_reducible exact Below.refl _ _) | ((with_reducible refine Below.alloc ?_ ?hB _); (case hB => (first | omega | (simp; done) | (simp; omega)))) | ((with_reducible refine Below.setCell ?_ ?hB _); (case hB => (first | omega | (simp; done) | (simp; omega)))) | (with_reducible refine Below.drew ?_) | ((with_reducible refine below_ext_of ?_ ?hB); (case hB => (first | omega | (simp; done) | (simp; omega)))) | ((with_reducible refine Below.trans ?_ (Below.mono (by assumption) ?hB)); (case hB => (first | omega | (simp; done) | (simp; omega)))))))).mono hz1) (HB1.out.trans (Below.mono (HBR.out.trans (Below.mono (show Below wr.heap.size wr _ from by (repeat (first | (with_reducible exact Below.refl _ _) | ((with_reducible refine Below.alloc ?_ ?hB _); (case hB => (first | omega | (simp; done) | (simp; omega)))) | ((with_reducible refine Below.setCell ?_ ?hB _); (case hB => (first | omega | (simp; done) | (simp; omega)))) | (with_reducible refine Below.drew ?_) | ((with_reducible refine below_ext_of ?_ ?hB); (case hB => (first | omega | (simp; done) | (simp; omega)))) | ((with_reducible refine Below.trans ?_ (Below.mono (by assumption) ?hB)); (case hB => (first | omega | (simp; done) | (simp; omega))))))) hzr)) hz1))
    · obtain rfl : k = L.length := by omega
      clear hb1
      go_wp2
      go_ret2
      rw [HPP.out]
      exact ParP.mk (ParAt.end_ hpa.out) (hown.out.mono hz1) (HB1.out.trans (HBR.out.mono hz1))
end Go.Proofs.YtinnaiofgbjicaaDoor
namespace Go.Proofs.YtinnaiofgbjicaaDoor
open Go.ChangeShapes Go.WideShapes Go.ChangeAt Go.RowKit Go.Joins Go.Proofs.YtinnaiofgbjicaaDoorW.PrintWords
set_option linter.unusedSimpArgs false
set_option linter.unusedVariables false
set_option maxRecDepth 1000000
theorem cells_qr : Tryd.prog.cellsOf 28 = 10 := by kernel_rfl
theorem open_qs {H : Type} {enc : TypeId × Value → H} {w : World} {base b0 : Nat} {spare : Nat → Bool} {held : Bool} {r : Reach} {v : Value} {d : DataW H} {p : List MemPlace} (hv : Value.okWide Tryd.prog w r b0 62 v) (h : DataW.Trod enc Tryd.prog w base spare held 62 v d p) :
    ∃ (A : Option Addr) (l : List Q9) (c : Nat), v = .slice A l.length c ∧ QRow w A l ∧ l.length ≤ 9223372036854775807 ∧ ∀ q ∈ l, q.Bw := by
  obtain ⟨a0, len0, cap0, rfl⟩ := okWide_slice Tryd.underlying62 hv
  obtain ⟨fuel, hf⟩ := h
  rcases Go.Deep.open_slice Tryd.underlying62 hf with ⟨hcs, _⟩ | ⟨a, len, cap, m, n, D, Pl, hcs, _, hl, hm, hmm, _, hi⟩
  · simp [Value.cells] at hcs
    obtain ⟨rfl, rfl, rfl⟩ := hcs
    exact ⟨none, [], 0, rfl, fun i hi => by simp at hi, by simp, fun q hq => by cases hq⟩
  · simp [Value.cells] at hcs
    obtain ⟨rfl, rfl, rfl⟩ := hcs
    have hlm : len0 ≤ m := by rw [hmm]; split <;> omega
    have key : ∀ i, i < len0 → ∃ h : QH, (∀ j u, h.cells[j]? = some u → w.cell? ((a.add (i * 10)).add j) = some u) ∧ h.reads w ∧ h.q.Bw := by
      intro i hil
      obtain ⟨cs', hc, ht⟩ := hi i (by omega)
      rw [cells_qr] at hc
      obtain ⟨_, hcl, hat⟩ := World.cells?_some hc
      obtain ⟨h, rfl, hr, hb⟩ := trod_q hcl ht
      refine ⟨h, fun j u hj => ?_, hr, hb⟩
      have hj2 : j < 10 := (List.getElem?_eq_some_iff.1 hj).1
      rw [hat j hj2]; exact hj
    have : Inhabited QH := ⟨⟨⟨0, 0, 0, 0, 0, 0, 0, 0, { data := #[] }, []⟩, none, 0⟩⟩
    obtain ⟨f, hf⟩ := Go.Deep.choose_lt key
    refine ⟨some a, (List.range len0).map (fun i => (f i).q), cap0, by simp, fun i hi => ?_, by simp; unfold maxLen at hm; omega, fun q hq => ?_⟩
    · simp only [List.length_map, List.length_range] at hi
      obtain ⟨h0, h1, _⟩ := hf i hi
      have k0 := h0 0 _ rfl
      have k1 := h0 1 _ rfl
      have k2 := h0 2 _ rfl
      have k3 := h0 3 _ rfl
      have k4 := h0 4 _ rfl
      have k5 := h0 5 _ rfl
      have k6 := h0 6 _ rfl
      have k7 := h0 7 _ rfl
      have k8 := h0 8 _ rfl
      have k9 := h0 9 _ rfl
      rw [Go.Deep.add_add] at k0 k1 k2 k3 k4 k5 k6 k7 k8 k9
      rw [Nat.add_zero] at k0
      rw [add_field _ _ 1 (by omega)] at k1
      rw [add_field _ _ 2 (by omega)] at k2
      rw [add_field _ _ 3 (by omega)] at k3
      rw [add_field _ _ 4 (by omega)] at k4
      rw [add_field _ _ 5 (by omega)] at k5
      rw [add_field _ _ 6 (by omega)] at k6
      rw [add_field _ _ 7 (by omega)] at k7
      rw [add_field _ _ 8 (by omega)] at k8
      rw [add_field _ _ 9 (by omega)] at k9
      exact ⟨a, f i, rfl, by simp, h1, ⟨k0, k1, k2, k3, k4, k5, k6, k7, k8, k9⟩⟩
    · obtain ⟨i, hi, rfl⟩ := List.mem_map.1 hq
      exact (hf i (by simpa using hi)).2.2
theorem head7_byt (op id : Int) (n : Nat) : Byt (head7 op id n) := by
  intro x hx
  simp only [head7, List.mem_cons, List.mem_nil_iff, or_false] at hx
  rcases hx with rfl | rfl | rfl | rfl | rfl | rfl | rfl <;> omega
/-- What a message's Write gives, or nothing. -/
def wrB (m : M3) : List Int := if mayM m.op m.id m.b.length = true then msgB m.op m.id m.b else []
def wrI (m : M3) : Int := if mayM m.op m.id m.b.length = true then 0 else 1
theorem wrB_len (m : M3) : (wrB m).length ≤ m.b.length + 7 := by
  unfold wrB; split
  · simp [msgB, head7]
  · simp
theorem wrB_byt {m : M3} (h : Byt m.b) : Byt (wrB m) := by
  unfold wrB; split
  · exact (head7_byt _ _ _).append h
  · exact Byt.nil
theorem ref_WriteAny (m : M3) (A : Option Addr) (c : Nat) (w : World) (hs : BS w A m.b c) : Calls Tryd.prog 29 #[(.agg #[.int .i64 (m.op), .int .i64 (m.id), .slice (A) (m.b.length) (c)])] w fun e w' => ∃ A' c', e = .returned (.tuple #[.slice A' (wrB m).length c', .int .i64 (wrI m)]) ∧ BS w' A' (wrB m) c' ∧ Below w.heap.size w w' := by
  by_cases hm : mayM m.op m.id m.b.length = true
  · refine (ref_WriteYes m.op m.id A m.b c w hs hm).mono fun e w' h => ?_
    obtain ⟨v, rfl, ho, hb⟩ := h
    have e1 : wrB m = msgB m.op m.id m.b := by unfold wrB; rw [if_pos hm]
    have e2 : wrI m = 0 := by unfold wrI; rw [if_pos hm]
    rw [e1, e2]
    obtain ⟨A', c', rfl, hs'⟩ := BS.own ho ((head7_byt _ _ _).append hs.byt)
    exact ⟨A', c', rfl, hs', hb⟩
  · have hm' := Bool.eq_false_iff.2 hm
    refine (ref_WriteNo m.op m.id A m.b.length c w (Nat.le_trans hs.le hs.max) hm').mono fun e w' h => ?_
    obtain ⟨rfl, hb⟩ := h
    have e1 : wrB m = [] := by unfold wrB; rw [if_neg hm]
    have e2 : wrI m = 1 := by unfold wrI; rw [if_neg hm]
    rw [e1, e2]
    exact ⟨none, 0, rfl, ⟨Nat.le_refl _, fun _ => rfl, by omega, ⟨rfl, by simp, fun h => by simp at h⟩, Byt.nil⟩, hb⟩
end Go.Proofs.YtinnaiofgbjicaaDoor
namespace Go.Proofs.YtinnaiofgbjicaaDoor
open Go.RowKit Go.Proofs.YtinnaiofgbjicaaDoorW.PrintWords
set_option linter.unusedSimpArgs false
set_option linter.unusedVariables false
set_option maxRecDepth 1000000
theorem bytSet {b : List Int} (h : Byt b) (j : Nat) {x : Int} (hx : 0 ≤ x ∧ x ≤ 255) : Byt (b.set j x) := fun n hn => by
  rcases List.mem_or_eq_of_mem_set hn with h1 | h1
  · exact h n h1
  · rw [h1]; exact hx
theorem numsSet (b : List Int) (j : Nat) (x : Int) : (nums .u8 b).set j (.int .u8 x) = nums .u8 (b.set j x) := by simp [nums, List.map_set]
theorem decOByt (T : ByteArray → Bool) (op id : Int) {b : List Int} (hb : Byt b) : Byt (decO T op id b).2.d := by
  unfold decO
  split
  · exact decK_byt T _ id hb
  · exact Byt.nil
theorem parseL_byt : ∀ (L : List M3) (e : Int), (∀ m ∈ L, Byt m.b) → ∀ q ∈ (parseL L e).1, Byt q.d
  | [], e, _, q, hq => by cases hq
  | m :: L, e, h, q, hq => by
    simp only [parseL] at hq
    split at hq
    · rcases List.mem_cons.1 hq with rfl | hq
      · exact decOByt _ _ _ (h m (List.mem_cons_self ..))
      · exact parseL_byt L e (fun m hm => h m (List.mem_cons_of_mem _ hm)) q hq
    · cases hq
theorem parseP_byt {b : List Int} (hb : Byt b) : ∀ q ∈ (parseP b).1, Byt q.d := parseL_byt _ _ fun m hm => ((splitP_msgs b hb).2 m hm).2
theorem parseL_len : ∀ (L : List M3) (e : Int), (parseL L e).1.length ≤ L.length
  | [], e => by simp [parseL]
  | m :: L, e => by
    simp only [parseL]
    split
    · simp only [List.length_cons]; have := parseL_len L e; omega
    · simp
theorem parseP_len {b : List Int} (hb : Byt b) : (parseP b).1.length ≤ b.length := Nat.le_trans (parseL_len _ _) (splitP_msgs b hb).1
set_option maxHeartbeats 40000000 in
theorem walk_RequestParses (A : Option Addr) (l : List Q9) (c : Nat) (at_ x : Int) (B : Option Addr) (b0 : List Int) (cb : Nat) (W : World) (hr : QRow W A l) (hlz : l.length ≤ 9223372036854775807) (hbw : ∀ q ∈ l, q.Bw) (hat : -9223372036854775808 ≤ at_ ∧ at_ ≤ 9223372036854775807) (hx : 0 ≤ x ∧ x ≤ 255) (hB : BS W B b0 cb) (hT : Lib.Utf8Tabs 2 3 W) :
    Calls Tryd.prog 7 #[.slice A l.length c, .int .i64 at_, .int .u8 x, .slice B b0.length cb] W fun e w' => e = .returned (.bool true) ∧ Below W.heap.size W w' := by
  have cF : ∀ w, Calls Tryd.prog 11 #[.slice B b0.length cb, .int .i64 20] w (fun e w' => e = .returned (.slice B (min b0.length 20) cb) ∧ w = w') := fun w => ref_Few B b0.length cb 20 w hB.le (by omega) (Nat.le_trans hB.le hB.max)
  have hF := hB.take (min b0.length 20) (by omega)
  have hfl : (b0.take (min b0.length 20)).length = min b0.length 20 := by rw [List.length_take]; omega
  generalize b0.take (min b0.length 20) = bm at *
  rw [← hfl] at cF
  have hbm : bm.length ≤ 20 := by omega
  have HF := Lib.hid hF
  have HLV := Lib.hid lives09
  have HT := Lib.hid hT
  have HRW := Lib.hid hr
  have HBW := Lib.hid hbw
  clear hF hB hfl hT hr hbw
  go_enter Tryd.func7, Tryd.ntmps7
  go_wp2
  go_loopw [9, 10] (fun v i wr => ∃ (n : Nat) (bs : List Int), n ≤ l.length ∧ n ≤ 6 ∧ i = .int .i64 n ∧ bs.length ≤ 4200 * n ∧ Hid (Byt bs) ∧ Hid (wr.ownsRow W.heap.size 5 1 v bs.length (nums .u8 bs)) ∧ Below W.heap.size W wr) (fun _ i _ => 6 - (intOf i).toNat)
  case atStart => exact ⟨0, [], by omega, by omega, rfl, by simp, Lib.hid Byt.nil, Lib.hid (own_nilB W W.heap.size), Below.refl _ _⟩
  case round =>
    obtain ⟨n, bs, hnl, hn6, rfl, hbl, hbyt, hown, hbr⟩ := hrel
    have hzr := hbr.size
    by_cases hc : n < l.length ∧ n < 6
    · obtain ⟨hlt, hlt6⟩ := hc
      obtain ⟨ad, ⟨p, Ap, mp⟩, rfl, hq, hrd, hqat⟩ := HRW.out n hlt
      have hpb : p.Bw := by have := HBW.out _ (List.getElem_mem hlt); rw [← hq] at this; exact this
      have g0 := pw_cell_below hbr hqat.c0; have g1 := pw_cell_below hbr hqat.c1; have g2 := pw_cell_below hbr hqat.c2; have g3 := pw_cell_below hbr hqat.c3; have g4 := pw_cell_below hbr hqat.c4; have g5 := pw_cell_below hbr hqat.c5; have g6 := pw_cell_below hbr hqat.c6; have g7 := pw_cell_below hbr hqat.c7; have g8 := pw_cell_below hbr hqat.c8; have g9 := pw_cell_below hbr hqat.c9
      have hrd1 := hrd.1
      have hrd2 := hrd.2
      dsimp only at g0 g1 g2 g3 g4 g5 g6 g7 g8 g9 hrd1 hrd2
      have cG := fun w (hb : Below W.heap.size W w) => r9_Good p hpb Ap mp w hrd1 (hrd2.below hb)
      unfold GudP at cG
      obtain ⟨i1, -, -⟩ := goodQ_bd p hpb
      obtain ⟨m, hm⟩ : ∃ m, encO mayT (goodQ p) = (0, m) := ⟨_, Prod.ext (good_ok p) rfl⟩
      have hml := (enc_dec hm).2
      have cE := fun w DA dc (hl : (goodQ p).d.length ≤ dc) (hr : ReadsInt w .u8 DA (goodQ p).d.length (goodQ p).d) => r_Encode (goodQ p) i1 DA dc w hl hr
      rw [hm] at cE
      unfold EncPost at cE
      simp only at cE
      clear hm hpb hrd hrd1 hrd2 hqat hq i1
      generalize goodQ p = g at *
      have cW := fun A2 c2 w (hs : BS w A2 m.b c2) => ref_WriteAny m A2 c2 w hs
      have hwl := wrB_len m
      obtain ⟨ys, hys⟩ : ∃ ys, wrB m = ys := ⟨_, rfl⟩
      obtain ⟨wi, hwi⟩ : ∃ wi, wrI m = wi := ⟨_, rfl⟩
      rw [hys] at hwl
      simp only [hys, hwi] at cW
      clear hys hwi
      go_wp2_with (first | (go_at_call 13; (with_reducible refine (cG _ ?_).mono ?_); (focus ((repeat (first | (with_reducible exact Below.refl _ _) | ((with_reducible refine Below.alloc ?_ ?hB _); (case hB => (first | omega | (simp; done) | (simp; omega)))) | ((with_reducible refine Below.setCell ?_ ?hB _); (case hB => (first | omega | (simp; done) | (simp; omega)))) | (with_reducible refine Below.drew ?_) | ((with_reducible refine below_ext_of ?_ ?hB); (case hB => (first | omega | (simp; done) | (simp; omega)))) | ((with_reducible refine Below.trans ?_ (Below.mono (by assumption) ?hB)); (case hB => (first | omega | (simp; done) | (simp; omega)))))); done)); rintro en w1 ⟨D1, d1, rfl, hl1, hr1, hb1⟩; replace hl1 := Lib.hid hl1; replace hr1 := Lib.hid hr1; obtain ⟨hc1, hf1⟩ := bcell hb1; have hz1 := hb1.size; (try simp only [World.size_alloc, World.size_setCell, World.size_drew] at hz1)) | (go_at_call 12; (with_reducible refine (cE _ _ _ hl1.out (hr1.out.below ?_)).mono ?_); (focus ((repeat (first | (with_reducible exact Below.refl _ _) | ((with_reducible refine Below.alloc ?_ ?hB _); (case hB => (first | omega | (simp; done) | (simp; omega)))) | ((with_reducible refine Below.setCell ?_ ?hB _); (case hB => (first | omega | (simp; done) | (simp; omega)))) | (with_reducible refine Below.drew ?_) | ((with_reducible refine below_ext_of ?_ ?hB); (case hB => (first | omega | (simp; done) | (simp; omega)))) | ((with_reducible refine Below.trans ?_ (Below.mono (by assumption) ?hB)); (case hB => (first | omega | (simp; done) | (simp; omega)))))); done)); rintro en w2 ⟨A2, c2, rfl, hs2, hb2⟩; replace hs2 := Lib.hid hs2; obtain ⟨hc2, hf2⟩ := bcell hb2; have hz2 := hb2.size; (try simp only [World.size_alloc, World.size_setCell, World.size_drew] at hz2)) | (go_at_call 29; (with_reducible refine (cW _ _ _ (hs2.out.below ?_)).mono ?_); (focus ((repeat (first | (with_reducible exact Below.refl _ _) | ((with_reducible refine Below.alloc ?_ ?hB _); (case hB => (first | omega | (simp; done) | (simp; omega)))) | ((with_reducible refine Below.setCell ?_ ?hB _); (case hB => (first | omega | (simp; done) | (simp; omega)))) | (with_reducible refine Below.drew ?_) | ((with_reducible refine below_ext_of ?_ ?hB); (case hB => (first | omega | (simp; done) | (simp; omega)))) | ((with_reducible refine Below.trans ?_ (Below.mono (by assumption) ?hB)); (case hB => (first | omega | (simp; done) | (simp; omega)))))); done)); rintro en w3 ⟨A3, c3, rfl, hs3, hb3⟩; replace hs3 := Lib.hid hs3; obtain ⟨hc3, hf3⟩ := bcell hb3; have hz3 := hb3.size; (try simp only [World.size_alloc, World.size_setCell, World.size_drew] at hz3)) | (at_builtin; refine print_append_row (w0 := W) (W.heap.size) rfl _ _ 22 5 .u8 1 rfl Tryd.underlying22 info_u8 (by decide) _ (bs) (ys) _ _ _ rfl rfl (pw_own_below hown.out ?_) (ReadsInt.below hs3.out.rd ?_) ?_ ?_ ?_ ?_; (focus ((repeat (first | (with_reducible exact Below.refl _ _) | ((with_reducible refine Below.alloc ?_ ?hB _); (case hB => (first | omega | (simp; done) | (simp; omega)))) | ((with_reducible refine Below.setCell ?_ ?hB _); (case hB => (first | omega | (simp; done) | (simp; omega)))) | (with_reducible refine Below.drew ?_) | ((with_reducible refine below_ext_of ?_ ?hB); (case hB => (first | omega | (simp; done) | (simp; omega)))) | ((with_reducible refine Below.trans ?_ (Below.mono (by assumption) ?hB)); (case hB => (first | omega | (simp; done) | (simp; omega)))))); done)); (focus ((repeat (first | (with_reducible exact Below.refl _ _) | ((with_reducible refine Below.alloc ?_ ?hB _); (case hB => (first | omega | (simp; done) | (simp; omega)))) | ((with_reducible refine Below.setCell ?_ ?hB _); (case hB => (first | omega | (simp; done) | (simp; omega)))) | (with_reducible refine Below.drew ?_) | ((with_reducible refine below_ext_of ?_ ?hB); (case hB => (first | omega | (simp; done) | (simp; omega)))) | ((with_reducible refine Below.trans ?_ (Below.mono (by assumption) ?hB)); (case hB => (first | omega | (simp; done) | (simp; omega)))))); done)); (focus ((repeat (first | (with_reducible exact Below.refl _ _) | ((with_reducible refine Below.alloc ?_ ?hB _); (case hB => (first | omega | (simp; done) | (simp; omega)))) | ((with_reducible refine Below.setCell ?_ ?hB _); (case hB => (first | omega | (simp; done) | (simp; omega)))) | (with_reducible refine Below.drew ?_) | ((with_reducible refine below_ext_of ?_ ?hB); (case hB => (first | omega | (simp; done) | (simp; omega)))) | ((with_reducible refine Below.trans ?_ (Below.mono (by assumption) ?hB)); (case hB => (first | omega | (simp; done) | (simp; omega)))))); done)); (focus ((first | omega | (simp; done) | (simp; omega)); done)); (focus ((try simp only [List.length_append, List.length_cons, List.length_nil]); omega)); intro v5 w5 hown5 hb5 _ _; have hz5 := hb5.size; (try simp only [World.size_alloc, World.size_setCell, World.size_drew] at hz5); obtain ⟨hc5, hf5⟩ := bcellB hb5))
      go_roundw
      case rel => exact ⟨n + 1, bs ++ ys, by omega, by omega, by go_num, by rw [List.length_append]; omega, Lib.hid (hbyt.out.append hs3.out.byt), Lib.hid hown5, hb5⟩
      case measure => simp [intOf]; omega
    · have hg : (n < l.length ∧ ¬ n < 6) ∨ ¬ n < l.length := by omega
      have hbl2 : bs.length ≤ 25200 := by omega
      clear hc HRW HBW
      have cQ0 := fun (full : List Int) (hn : full.length ≤ 1000000) A c w1 (hs : BS w1 A full c) (hb : Below W.heap.size W w1) => q_Parse A full c w1 hs hn (Utf8Tabs_below HT.out hb)
      have cR0 := fun (full : List Int) (hn : full.length ≤ 1000000) A c w1 (hs : BS w1 A full c) => r_Parse A full c w1 hs hn
      by_cases hb0 : 0 < bs.length
      · obtain ⟨j, hj⟩ : ∃ j : Nat, around at_ bs.length = (j : Int) := ⟨(around at_ bs.length).toNat, by have := around_bd at_ bs.length (by omega); omega⟩
        have hjl : j < bs.length := by have := around_bd at_ bs.length (by omega); omega
        have cA := fun w => ref_Around at_ bs.length w hat.1 hat.2 (by omega) (by omega)
        rw [hj] at cA
        clear hj
        obtain ⟨gg, cap, rfl, _⟩ := hown.out.form hb0
        obtain ⟨hge, hlt5⟩ := World.ownsRow.lt hown.out gg rfl
        have hcj := hown.out.cellAt j (by omega)
        obtain ⟨y5, hy5⟩ : ∃ y, (nums .u8 bs)[j]? = some y := ⟨_, List.getElem?_eq_getElem (by simp [nums]; omega)⟩
        rw [hy5] at hcj
        clear hy5
        have hfj := hown.out.frozenAt j
        have HOS := Lib.hid (hown.out.stored j (.int .u8 x)).1
        replace HOS := Lib.hid (numsSet bs j x ▸ HOS.out)
        have hlb : (bs.set j x).length = bs.length := List.length_set
        have hbyt2 := bytSet hbyt.out j hx
        obtain ⟨body, hbody⟩ : ∃ b, bs.set j x = b := ⟨_, rfl⟩
        rw [hbody] at hlb hbyt2
        replace HOS := Lib.hid (show (wr.setCell ⟨gg, j, none⟩ (.int .u8 x)).ownsRow W.heap.size 5 1 (.slice (some ⟨gg, 0, none⟩) bs.length cap) body.length (nums .u8 body) from by rw [hlb, ← hbody]; exact HOS.out)
        have hfy := hbyt2.append HF.out.byt
        have hfn : (body ++ bm).length ≤ 1000000 := by rw [List.length_append]; omega
        obtain ⟨full, hfull⟩ : ∃ f, body ++ bm = f := ⟨_, rfl⟩
        rw [hfull] at hfy hfn
        replace hfull := Lib.hid hfull
        have hfb := Lib.hid hfy
        have cQ := cQ0 full hfn
        have cR := cR0 full hfn
        have hRb := parseP_byt hfy
        have hRl := parseP_len hfy
        rcases hpp : parseP full with ⟨R, er⟩
        rw [hpp] at hRb hRl
        simp only [hpp] at cQ cR
        unfold ParP at cQ cR
        simp only at cQ cR hRb hRl
        replace hRb := Lib.hid hRb
        clear cQ0 cR0 hpp hbody hfy hown hbyt hbyt2
        rcases hg with ⟨hg1, hg2⟩ | hg1
        all_goals (go_wp2_with (first | (go_at_call 14; (with_reducible refine (cA _).mono ?_); rintro en w9 ⟨rfl, rfl⟩) | (go_at_call 11; (with_reducible refine (cF _).mono ?_); rintro en w9 ⟨rfl, rfl⟩) | ((at_builtin; refine print_append_row (w0 := W) (W.heap.size) rfl _ _ 22 5 .u8 1 rfl Tryd.underlying22 info_u8 (by decide) _ (body) (bm) _ _ _ rfl rfl (pw_own_below HOS.out ?_) (ReadsInt.below HF.out.rd ?_) ?_ ?_ ?_ ?_; (focus ((repeat (first | (with_reducible exact Below.refl _ _) | ((with_reducible refine Below.alloc ?_ ?hB _); (case hB => (first | omega | (simp; done) | (simp; omega)))) | ((with_reducible refine Below.setCell ?_ ?hB _); (case hB => (first | omega | (simp; done) | (simp; omega)))) | (with_reducible refine Below.drew ?_) | ((with_reducible refine below_ext_of ?_ ?hB); (case hB => (first | omega | (simp; done) | (simp; omega)))) | ((with_reducible refine Below.trans ?_ (Below.mono (by assumption) ?hB)); (case hB => (first | omega | (simp; done) | (simp; omega)))))); done)); (focus ((repeat (first | (with_reducible exact Below.refl _ _) | ((with_reducible refine Below.alloc ?_ ?hB _); (case hB => (first | omega | (simp; done) | (simp; omega)))) | ((with_reducible refine Below.setCell ?_ ?hB _); (case hB => (first | omega | (simp; done) | (simp; omega)))) | (with_reducible refine Below.drew ?_) | ((with_reducible refine below_ext_of ?_ ?hB); (case hB => (first | omega | (simp; done) | (simp; omega)))) | ((with_reducible refine Below.trans ?_ (Below.mono (by assumption) ?hB)); (case hB => (first | omega | (simp; done) | (simp; omega)))))); done)); (focus ((repeat (first | (with_reducible exact Below.refl _ _) | ((with_reducible refine Below.alloc ?_ ?hB _); (case hB => (first | omega | (simp; done) | (simp; omega)))) | ((with_reducible refine Below.setCell ?_ ?hB _); (case hB => (first | omega | (simp; done) | (simp; omega)))) | (with_reducible refine Below.drew ?_) | ((with_reducible refine below_ext_of ?_ ?hB); (case hB => (first | omega | (simp; done) | (simp; omega)))) | ((with_reducible refine Below.trans ?_ (Below.mono (by assumption) ?hB)); (case hB => (first | omega | (simp; done) | (simp; omega)))))); done)); (focus ((first | omega | (simp; done) | (simp; omega)); done)); (focus ((try simp only [List.length_append, List.length_cons, List.length_nil]); omega)); intro v5 w5 hown5 hb5 _ _; have hz5 := hb5.size; (try simp only [World.size_alloc, World.size_setCell, World.size_drew] at hz5); obtain ⟨hc5, hf5⟩ := bcellB hb5); rw [hfull.out] at hown5; obtain ⟨A5, c5, rfl, hs5⟩ := BS.own hown5 hfb.out; replace hs5 := Lib.hid hs5; clear hown5) | (go_at_call 30; (with_reducible refine (cQ _ _ _ (hs5.out.below ?_) ?_).mono ?_); (focus ((repeat (first | (with_reducible exact Below.refl _ _) | ((with_reducible refine Below.alloc ?_ ?hB _); (case hB => (first | omega | (simp; done) | (simp; omega)))) | ((with_reducible refine Below.setCell ?_ ?hB _); (case hB => (first | omega | (simp; done) | (simp; omega)))) | (with_reducible refine Below.drew ?_) | ((with_reducible refine below_ext_of ?_ ?hB); (case hB => (first | omega | (simp; done) | (simp; omega)))) | ((with_reducible refine Below.trans ?_ (Below.mono (by assumption) ?hB)); (case hB => (first | omega | (simp; done) | (simp; omega)))))); done)); (focus ((repeat (first | (with_reducible exact Below.refl _ _) | ((with_reducible refine Below.alloc ?_ ?hB _); (case hB => (first | omega | (simp; done) | (simp; omega)))) | ((with_reducible refine Below.setCell ?_ ?hB _); (case hB => (first | omega | (simp; done) | (simp; omega)))) | (with_reducible refine Below.drew ?_) | ((with_reducible refine below_ext_of ?_ ?hB); (case hB => (first | omega | (simp; done) | (simp; omega)))) | ((with_reducible refine Below.trans ?_ (Below.mono (by assumption) ?hB)); (case hB => (first | omega | (simp; done) | (simp; omega)))))); done)); rintro en w6 ⟨v6, rfl, ho6, hb6⟩; have hx6 := ho6.rd; obtain ⟨A6, c6, rfl, hl6, hr6⟩ := hx6; replace hr6 := Lib.hid hr6; have hz6 := hb6.size; (try simp only [World.size_alloc, World.size_setCell, World.size_drew] at hz6)) | (go_at_call 31; (with_reducible refine (cR _ _ _ (hs5.out.below ?_)).mono ?_); (focus ((repeat (first | (with_reducible exact Below.refl _ _) | ((with_reducible refine Below.alloc ?_ ?hB _); (case hB => (first | omega | (simp; done) | (simp; omega)))) | ((with_reducible refine Below.setCell ?_ ?hB _); (case hB => (first | omega | (simp; done) | (simp; omega)))) | (with_reducible refine Below.drew ?_) | ((with_reducible refine below_ext_of ?_ ?hB); (case hB => (first | omega | (simp; done) | (simp; omega)))) | ((with_reducible refine Below.trans ?_ (Below.mono (by assumption) ?hB)); (case hB => (first | omega | (simp; done) | (simp; omega)))))); done)); rintro en w7 ⟨v7, rfl, ho7, hb7⟩; have hx7 := ho7.rd; obtain ⟨A7, c7, rfl, hl7, hr7⟩ := hx7; replace hr7 := Lib.hid (hr7); have hz7 := hb7.size; (try simp only [World.size_alloc, World.size_setCell, World.size_drew] at hz7))); have hr6' := hr6.out.below hb7; have hX7 := Lib.hid (show Below W.heap.size W w7 from by (repeat (first | (with_reducible exact Below.refl _ _) | ((with_reducible refine Below.alloc ?_ ?hB _); (case hB => (first | omega | (simp; done) | (simp; omega)))) | ((with_reducible refine Below.setCell ?_ ?hB _); (case hB => (first | omega | (simp; done) | (simp; omega)))) | (with_reducible refine Below.drew ?_) | ((with_reducible refine below_ext_of ?_ ?hB); (case hB => (first | omega | (simp; done) | (simp; omega)))) | ((with_reducible refine Below.trans ?_ (Below.mono (by assumption) ?hB)); (case hB => (first | omega | (simp; done) | (simp; omega))))))); clear cQ cR cF; go_loopw [19] (fun i wr => ∃ k : Nat, k ≤ R.length ∧ i = .int .i64 k ∧ Below w7.heap.size w7 wr) (fun i _ => R.length - (intOf i).toNat); (case atStart => exact ⟨0, by omega, rfl, Below.refl _ _⟩); (case round => (obtain ⟨k, hk, rfl, hbq⟩ := hrel; have hzq := hbq.size; by_cases hkl : k < R.length; (focus (obtain ⟨a6, ⟨y6, D6, d6⟩, rfl, e6, q6, t6⟩ := (hr6'.below hbq) k hkl; obtain ⟨a7, ⟨y7, D7, d7⟩, rfl, e7, q7, t7⟩ := (hr7.out.below hbq) k hkl; obtain ⟨y, hy⟩ : ∃ y, R[k]'hkl = y := ⟨_, rfl⟩; have hyb := hRb.out y (by rw [← hy]; exact List.getElem_mem hkl); rw [hy] at e6 e7; dsimp only at e6 e7; clear hy; have HKL := Lib.hid hkl; subst e6; subst e7; have cL := fun x => law_like9 y7 y7 D6 D7 d6 d7 (ext wr x) hyb hyb (q6.2.below (below_ext wr x)) (q7.2.below (below_ext wr x)); simp only [decide_true] at cL; have x06 := fun x => pw_cell_below (below_ext wr x) t6.c0; have x16 := fun x => pw_cell_below (below_ext wr x) t6.c1; have x26 := fun x => pw_cell_below (below_ext wr x) t6.c2; have x36 := fun x => pw_cell_below (below_ext wr x) t6.c3; have x46 := fun x => pw_cell_below (below_ext wr x) t6.c4; have x56 := fun x => pw_cell_below (below_ext wr x) t6.c5; have x66 := fun x => pw_cell_below (below_ext wr x) t6.c6; have x76 := fun x => pw_cell_below (below_ext wr x) t6.c7; have x86 := fun x => pw_cell_below (below_ext wr x) t6.c8; have x96 := fun x => pw_cell_below (below_ext wr x) t6.c9; have x07 := fun x => pw_cell_below (below_ext wr x) t7.c0; have x17 := fun x => pw_cell_below (below_ext wr x) t7.c1; have x27 := fun x => pw_cell_below (below_ext wr x) t7.c2; have x37 := fun x => pw_cell_below (below_ext wr x) t7.c3; have x47 := fun x => pw_cell_below (below_ext wr x) t7.c4; have x57 := fun x => pw_cell_below (below_ext wr x) t7.c5; have x67 := fun x => pw_cell_below (below_ext wr x) t7.c6; have x77 := fun x => pw_cell_below (below_ext wr x) t7.c7; have x87 := fun x => pw_cell_below (below_ext wr x) t7.c8; have x97 := fun x => pw_cell_below (below_ext wr x) t7.c9; clear q6 q7 t6 t7 hyb; dsimp only at *; go_wp2; (refine wp_region_ext_lit (by kernel_rfl) (by kernel_rfl) ?_; (repeat (go_big_quiet_step (((go_at_call 17; with_reducible exact ext_call (cL _)))))); refine wpQuiet_nil ?_; intro w8 hb_w8; obtain ⟨hc_w8, hf_w8⟩ := bcell hb_w8; have hz_w8 := hb_w8.size; (try simp only [World.size_alloc, World.size_setCell, World.size_drew] at hz_w8)); go_wp2; go_roundw; (case rel => exact ⟨k + 1, HKL.out, by go_num, by (repeat (first | (with_reducible exact Below.refl _ _) | ((with_reducible refine Below.alloc ?_ ?hB _); (case hB => (first | omega | (simp; done) | (simp; omega)))) | ((with_reducible refine Below.setCell ?_ ?hB _); (case hB => (first | omega | (simp; done) | (simp; omega)))) | (with_reducible refine Below.drew ?_) | ((with_reducible refine below_ext_of ?_ ?hB); (case hB => (first | omega | (simp; done) | (simp; omega)))) | ((with_reducible refine Below.trans ?_ (Below.mono (by assumption) ?hB)); (case hB => (first | omega | (simp; done) | (simp; omega))))))⟩); (case measure => (have := HKL.out; simp [intOf]; omega)))); (focus (obtain rfl : k = R.length := (by omega); go_wp2_with (first | (go_at_call 18; (with_reducible refine (HLV.out _).mono ?_); rintro en w5 ⟨rfl, hb5⟩; have hz5 := hb5.size)); go_ret; exact ⟨rfl, (hX7.out.trans (hbq.mono hX7.out.size)).trans (hb5.mono (by have := hX7.out.size; omega))⟩)))))
      · obtain rfl : bs = [] := List.eq_nil_of_length_eq_zero (by omega)
        obtain ⟨A9, c9, rfl⟩ := own_slice hown.out
        have HOS := Lib.hid (show wr.ownsRow W.heap.size 5 1 (.slice A9 0 c9) ([] : List Int).length (nums .u8 []) from hown.out)
        have hfy := HF.out.byt
        have hfn : bm.length ≤ 1000000 := by omega
        have hfull := Lib.hid (show ([] : List Int) ++ bm = bm from rfl)
        have hfb := Lib.hid hfy
        have cQ := cQ0 bm hfn
        have cR := cR0 bm hfn
        have hRb := parseP_byt hfy
        have hRl := parseP_len hfy
        rcases hpp : parseP bm with ⟨R, er⟩
        rw [hpp] at hRb hRl
        simp only [hpp] at cQ cR
        unfold ParP at cQ cR
        simp only at cQ cR hRb hRl
        replace hRb := Lib.hid hRb
        clear cQ0 cR0 hpp hfy hown hbyt
        rcases hg with ⟨hg1, hg2⟩ | hg1
        all_goals (go_wp2_with (first | (go_at_call 14; (with_reducible refine (cA _).mono ?_); rintro en w9 ⟨rfl, rfl⟩) | (go_at_call 11; (with_reducible refine (cF _).mono ?_); rintro en w9 ⟨rfl, rfl⟩) | ((at_builtin; refine print_append_row (w0 := W) (W.heap.size) rfl _ _ 22 5 .u8 1 rfl Tryd.underlying22 info_u8 (by decide) _ ([]) (bm) _ _ _ rfl rfl (pw_own_below HOS.out ?_) (ReadsInt.below HF.out.rd ?_) ?_ ?_ ?_ ?_; (focus ((repeat (first | (with_reducible exact Below.refl _ _) | ((with_reducible refine Below.alloc ?_ ?hB _); (case hB => (first | omega | (simp; done) | (simp; omega)))) | ((with_reducible refine Below.setCell ?_ ?hB _); (case hB => (first | omega | (simp; done) | (simp; omega)))) | (with_reducible refine Below.drew ?_) | ((with_reducible refine below_ext_of ?_ ?hB); (case hB => (first | omega | (simp; done) | (simp; omega)))) | ((with_reducible refine Below.trans ?_ (Below.mono (by assumption) ?hB)); (case hB => (first | omega | (simp; done) | (simp; omega)))))); done)); (focus ((repeat (first | (with_reducible exact Below.refl _ _) | ((with_reducible refine Below.alloc ?_ ?hB _); (case hB => (first | omega | (simp; done) | (simp; omega)))) | ((with_reducible refine Below.setCell ?_ ?hB _); (case hB => (first | omega | (simp; done) | (simp; omega)))) | (with_reducible refine Below.drew ?_) | ((with_reducible refine below_ext_of ?_ ?hB); (case hB => (first | omega | (simp; done) | (simp; omega)))) | ((with_reducible refine Below.trans ?_ (Below.mono (by assumption) ?hB)); (case hB => (first | omega | (simp; done) | (simp; omega)))))); done)); (focus ((repeat (first | (with_reducible exact Below.refl _ _) | ((with_reducible refine Below.alloc ?_ ?hB _); (case hB => (first | omega | (simp; done) | (simp; omega)))) | ((with_reducible refine Below.setCell ?_ ?hB _); (case hB => (first | omega | (simp; done) | (simp; omega)))) | (with_reducible refine Below.drew ?_) | ((with_reducible refine below_ext_of ?_ ?hB); (case hB => (first | omega | (simp; done) | (simp; omega)))) | ((with_reducible refine Below.trans ?_ (Below.mono (by assumption) ?hB)); (case hB => (first | omega | (simp; done) | (simp; omega)))))); done)); (focus ((first | omega | (simp; done) | (simp; omega)); done)); (focus ((try simp only [List.length_append, List.length_cons, List.length_nil]); omega)); intro v5 w5 hown5 hb5 _ _; have hz5 := hb5.size; (try simp only [World.size_alloc, World.size_setCell, World.size_drew] at hz5); obtain ⟨hc5, hf5⟩ := bcellB hb5); rw [hfull.out] at hown5; obtain ⟨A5, c5, rfl, hs5⟩ := BS.own hown5 hfb.out; replace hs5 := Lib.hid hs5; clear hown5) | (go_at_call 30; (with_reducible refine (cQ _ _ _ (hs5.out.below ?_) ?_).mono ?_); (focus ((repeat (first | (with_reducible exact Below.refl _ _) | ((with_reducible refine Below.alloc ?_ ?hB _); (case hB => (first | omega | (simp; done) | (simp; omega)))) | ((with_reducible refine Below.setCell ?_ ?hB _); (case hB => (first | omega | (simp; done) | (simp; omega)))) | (with_reducible refine Below.drew ?_) | ((with_reducible refine below_ext_of ?_ ?hB); (case hB => (first | omega | (simp; done) | (simp; omega)))) | ((with_reducible refine Below.trans ?_ (Below.mono (by assumption) ?hB)); (case hB => (first | omega | (simp; done) | (simp; omega)))))); done)); (focus ((repeat (first | (with_reducible exact Below.refl _ _) | ((with_reducible refine Below.alloc ?_ ?hB _); (case hB => (first | omega | (simp; done) | (simp; omega)))) | ((with_reducible refine Below.setCell ?_ ?hB _); (case hB => (first | omega | (simp; done) | (simp; omega)))) | (with_reducible refine Below.drew ?_) | ((with_reducible refine below_ext_of ?_ ?hB); (case hB => (first | omega | (simp; done) | (simp; omega)))) | ((with_reducible refine Below.trans ?_ (Below.mono (by assumption) ?hB)); (case hB => (first | omega | (simp; done) | (simp; omega)))))); done)); rintro en w6 ⟨v6, rfl, ho6, hb6⟩; have hx6 := ho6.rd; obtain ⟨A6, c6, rfl, hl6, hr6⟩ := hx6; replace hr6 := Lib.hid hr6; have hz6 := hb6.size; (try simp only [World.size_alloc, World.size_setCell, World.size_drew] at hz6)) | (go_at_call 31; (with_reducible refine (cR _ _ _ (hs5.out.below ?_)).mono ?_); (focus ((repeat (first | (with_reducible exact Below.refl _ _) | ((with_reducible refine Below.alloc ?_ ?hB _); (case hB => (first | omega | (simp; done) | (simp; omega)))) | ((with_reducible refine Below.setCell ?_ ?hB _); (case hB => (first | omega | (simp; done) | (simp; omega)))) | (with_reducible refine Below.drew ?_) | ((with_reducible refine below_ext_of ?_ ?hB); (case hB => (first | omega | (simp; done) | (simp; omega)))) | ((with_reducible refine Below.trans ?_ (Below.mono (by assumption) ?hB)); (case hB => (first | omega | (simp; done) | (simp; omega)))))); done)); rintro en w7 ⟨v7, rfl, ho7, hb7⟩; have hx7 := ho7.rd; obtain ⟨A7, c7, rfl, hl7, hr7⟩ := hx7; replace hr7 := Lib.hid (hr7); have hz7 := hb7.size; (try simp only [World.size_alloc, World.size_setCell, World.size_drew] at hz7))); have hr6' := hr6.out.below hb7; have hX7 := Lib.hid (show Below W.heap.size W w7 from by (repeat (first | (with_reducible exact Below.refl _ _) | ((with_reducible refine Below.alloc ?_ ?hB _); (case hB => (first | omega | (simp; done) | (simp; omega)))) | ((with_reducible refine Below.setCell ?_ ?hB _); (case hB => (first | omega | (simp; done) | (simp; omega)))) | (with_reducible refine Below.drew ?_) | ((with_reducible refine below_ext_of ?_ ?hB); (case hB => (first | omega | (simp; done) | (simp; omega)))) | ((with_reducible refine Below.trans ?_ (Below.mono (by assumption) ?hB)); (case hB => (first | omega | (simp; done) | (simp; omega))))))); clear cQ cR cF; go_loopw [19] (fun i wr => ∃ k : Nat, k ≤ R.length ∧ i = .int .i64 k ∧ Below w7.heap.size w7 wr) (fun i _ => R.length - (intOf i).toNat); (case atStart => exact ⟨0, by omega, rfl, Below.refl _ _⟩); (case round => (obtain ⟨k, hk, rfl, hbq⟩ := hrel; have hzq := hbq.size; by_cases hkl : k < R.length; (focus (obtain ⟨a6, ⟨y6, D6, d6⟩, rfl, e6, q6, t6⟩ := (hr6'.below hbq) k hkl; obtain ⟨a7, ⟨y7, D7, d7⟩, rfl, e7, q7, t7⟩ := (hr7.out.below hbq) k hkl; obtain ⟨y, hy⟩ : ∃ y, R[k]'hkl = y := ⟨_, rfl⟩; have hyb := hRb.out y (by rw [← hy]; exact List.getElem_mem hkl); rw [hy] at e6 e7; dsimp only at e6 e7; clear hy; have HKL := Lib.hid hkl; subst e6; subst e7; have cL := fun x => law_like9 y7 y7 D6 D7 d6 d7 (ext wr x) hyb hyb (q6.2.below (below_ext wr x)) (q7.2.below (below_ext wr x)); simp only [decide_true] at cL; have x06 := fun x => pw_cell_below (below_ext wr x) t6.c0; have x16 := fun x => pw_cell_below (below_ext wr x) t6.c1; have x26 := fun x => pw_cell_below (below_ext wr x) t6.c2; have x36 := fun x => pw_cell_below (below_ext wr x) t6.c3; have x46 := fun x => pw_cell_below (below_ext wr x) t6.c4; have x56 := fun x => pw_cell_below (below_ext wr x) t6.c5; have x66 := fun x => pw_cell_below (below_ext wr x) t6.c6; have x76 := fun x => pw_cell_below (below_ext wr x) t6.c7; have x86 := fun x => pw_cell_below (below_ext wr x) t6.c8; have x96 := fun x => pw_cell_below (below_ext wr x) t6.c9; have x07 := fun x => pw_cell_below (below_ext wr x) t7.c0; have x17 := fun x => pw_cell_below (below_ext wr x) t7.c1; have x27 := fun x => pw_cell_below (below_ext wr x) t7.c2; have x37 := fun x => pw_cell_below (below_ext wr x) t7.c3; have x47 := fun x => pw_cell_below (below_ext wr x) t7.c4; have x57 := fun x => pw_cell_below (below_ext wr x) t7.c5; have x67 := fun x => pw_cell_below (below_ext wr x) t7.c6; have x77 := fun x => pw_cell_below (below_ext wr x) t7.c7; have x87 := fun x => pw_cell_below (below_ext wr x) t7.c8; have x97 := fun x => pw_cell_below (below_ext wr x) t7.c9; clear q6 q7 t6 t7 hyb; dsimp only at *; go_wp2; (refine wp_region_ext_lit (by kernel_rfl) (by kernel_rfl) ?_; (repeat (go_big_quiet_step (((go_at_call 17; with_reducible exact ext_call (cL _)))))); refine wpQuiet_nil ?_; intro w8 hb_w8; obtain ⟨hc_w8, hf_w8⟩ := bcell hb_w8; have hz_w8 := hb_w8.size; (try simp only [World.size_alloc, World.size_setCell, World.size_drew] at hz_w8)); go_wp2; go_roundw; (case rel => exact ⟨k + 1, HKL.out, by go_num, by (repeat (first | (with_reducible exact Below.refl _ _) | ((with_reducible refine Below.alloc ?_ ?hB _); (case hB => (first | omega | (simp; done) | (simp; omega)))) | ((with_reducible refine Below.setCell ?_ ?hB _); (case hB => (first | omega | (simp; done) | (simp; omega)))) | (with_reducible refine Below.drew ?_) | ((with_reducible refine below_ext_of ?_ ?hB); (case hB => (first | omega | (simp; done) | (simp; omega)))) | ((with_reducible refine Below.trans ?_ (Below.mono (by assumption) ?hB)); (case hB => (first | omega | (simp; done) | (simp; omega))))))⟩); (case measure => (have := HKL.out; simp [intOf]; omega)))); (focus (obtain rfl : k = R.length := (by omega); go_wp2_with (first | (go_at_call 18; (with_reducible refine (HLV.out _).mono ?_); rintro en w5 ⟨rfl, hb5⟩; have hz5 := hb5.size)); go_ret; exact ⟨rfl, (hX7.out.trans (hbq.mono hX7.out.size)).trans (hb5.mono (by have := hX7.out.size; omega))⟩)))))
end Go.Proofs.YtinnaiofgbjicaaDoor
