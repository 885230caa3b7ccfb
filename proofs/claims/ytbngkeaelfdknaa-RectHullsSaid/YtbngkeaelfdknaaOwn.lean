/- Slices that a call makes itself and appends to, in few words. -/
import Derived.Test.YtbngkeaelfdknaaBase
import Derived.OwnWalk
namespace Go.Proofs.Ytbngkeaelfdknaa
open Go.RowKit
set_option linter.unusedVariables false
/-- What is to be known of a slice's type. -/
structure SliceT (P : Program) (t e : TypeId) (z : Value) (size bytes : Nat) : Prop where
  ht : P.underlying t = some (.slice e)
  info : (P.info? e).map (fun i => (i.zero, i.size, i.bytes)) = some (some z, size, bytes)
  hzs : z.cells.size = size
  hsz : 0 < size
  hby : bytes ≤ 1000
/-- 'append(s, x..)' where s is nil or a row of the call's own, of blocks from base on; what lies below base stays. -/
theorem app_own {P : Program} {ops : Array Oper} {rest : List Oper} {o : Oper} {a : Act} {Q : Exit → Act → World → Prop} {w : World} {t e : TypeId} {z : Value} {size bytes : Nat} (T : SliceT P t e z size bytes) (hgd : o.guard = none) {s x : Operand}
    (ho : o.op = .call { callee := .builtin .append, args := #[s, x], argTypes := #[t, t] }) (base : Nat) {v : Value} {n : Nat} {xs : List Value} (hs : a.eval s = v) (hown : w.ownsRow base e size v n xs)
    {ad : Addr} {m c : Nat} (news : List Value) (hx : a.eval x = .slice (some ad) m c) (hl : news.length = m * size) (hnews : ∀ j u, news[j]? = some u → w.cell? (ad.add j) = some u) (h1 : ∀ u ∈ news, u.oneCell' = true)
    (hn : n + m ≤ 100000000) (hbase : base ≤ w.heap.size)
    (h : ∀ v' w', w'.ownsRow base e size v' (n + m) (xs ++ news) → Below base w w' → w.heap.size ≤ w'.heap.size → wpList P ops Q rest (a.put o.dst v') w') : wpList P ops Q (o :: rest) a w := by
  have hinfo := T.info
  cases hi : P.info? e with
  | none => rw [hi] at hinfo; cases hinfo
  | some i =>
    rw [hi] at hinfo
    simp only [Option.map_some, Option.some.injEq, Prod.mk.injEq] at hinfo
    obtain ⟨hz, hsize, hby⟩ := hinfo
    have hb := T.hby
    have hb2 : (n + m) * bytes ≤ 100000000 * 1000 := Nat.mul_le_mul hn hb
    refine wpList_append_own w hgd s x t ho base e i z size bytes T.ht hi hz hsize hby T.hzs T.hsz v n xs hs hown ad m c news hx hl hnews h1 (by unfold maxLen; omega) (by omega) hbase fun v' w' h2 h3 h4 => ?_
    exact h v' w' h2 ((Below.refl base w).grown h3 hbase (fun k hk => (hown.lt k hk).1)) h3.size
/-- The cells of a block that was just made. -/
theorem news_new (w : World) (c : List Value) (t : TypeId) : ∀ j u, c[j]? = some u → (w.alloc (.cells c.toArray t)).cell? ((⟨w.heap.size, 0, none⟩ : Addr).add j) = some u := by
  intro j u h
  have e : ((⟨w.heap.size, 0, none⟩ : Addr).add j) = ⟨w.heap.size, j, none⟩ := by unfold Addr.add; split <;> simp [*]
  rw [e, World.cell?_alloc_new]; simpa using h
theorem own_below {w w' : World} {base : Nat} {e : TypeId} {size : Nat} {v : Value} {n : Nat} {xs : List Value} (h : w.ownsRow base e size v n xs) (hb : Below w.heap.size w w') : w'.ownsRow base e size v n xs :=
  h.kept (row := none) ⟨hb.os, hb.tape, hb.output, hb.size, fun k hk _ => hb.block k hk⟩ (by
    cases hv : v.ownBlock with
    | none => exact .inl rfl
    | some k => exact .inr (by simp))
theorem own_form {w : World} {base : Nat} {e : TypeId} {size : Nat} {v : Value} {n : Nat} {xs : List Value} (h : w.ownsRow base e size v n xs) (hn : 0 < n) : ∃ g cap, v = .slice (some ⟨g, 0, none⟩) n cap ∧ base ≤ g ∧ g < w.heap.size ∧ n ≤ cap ∧ cap ≤ maxLen := by
  rcases h.2 with ⟨_, h0⟩ | ⟨g, cap, cur, hv, hg, hh, h1, h2, _⟩
  · omega
  · exact ⟨g, cap, hv, hg, (Array.getElem?_eq_some_iff.1 hh).1, h1, h2⟩
theorem own_nil {w : World} {base : Nat} {e : TypeId} {size : Nat} {v : Value} {n : Nat} {xs : List Value} (h : w.ownsRow base e size v n xs) : ∃ a cap, v = .slice a n cap ∧ n ≤ cap := by
  rcases h.2 with ⟨hv, h0⟩ | ⟨g, cap, cur, hv, hg, hh, h1, h2, _⟩
  · subst h0; exact ⟨none, 0, hv, by omega⟩
  · exact ⟨_, cap, hv, h1⟩
theorem below_ext_of {B : Nat} {a w : World} {x : Ext} (h : Below B a w) (hB : B ≤ w.heap.size) : Below B a (ext w x) := h.trans ((below_ext w x).mono hB)
end Go.Proofs.Ytbngkeaelfdknaa
