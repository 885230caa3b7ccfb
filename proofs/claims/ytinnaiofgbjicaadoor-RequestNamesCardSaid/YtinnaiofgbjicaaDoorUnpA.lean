/- Bytes that came in, opened; what is unpacked is of its kind alone. -/
import Derived.Test.YtinnaiofgbjicaaDoorArgY
import Derived.Test.YtinnaiofgbjicaaDoorOpenV
import Derived.Test.YtinnaiofgbjicaaDoorArgPack
namespace Go.Proofs.YtinnaiofgbjicaaDoor
open Go.ChangeShapes Go.WideShapes Go.ChangeAt Go.RowKit Go.Joins Go.Proofs.YtinnaiofgbjicaaDoorW.PrintWords
set_option linter.unusedSimpArgs false
set_option linter.unusedVariables false
set_option maxRecDepth 1000000
/-- A slice of bytes, read. -/
structure BS (w : World) (A : Option Addr) (b : List Int) (c : Nat) : Prop where
  le : b.length ≤ c
  nil : A = none → c = 0
  max : c ≤ 9223372036854775807
  rd : ReadsInt w .u8 A b.length b
  byt : Byt b
theorem BS.below {w w1 : World} {A : Option Addr} {b : List Int} {c : Nat} (h : BS w A b c) (hb : Below w.heap.size w w1) : BS w1 A b c := ⟨h.le, h.nil, h.max, h.rd.below hb, h.byt⟩
theorem BS.take {w : World} {A : Option Addr} {b : List Int} {c : Nat} (h : BS w A b c) (n : Nat) (hn : n ≤ b.length) : BS w A (b.take n) c := by
  have hl : (b.take n).length = n := by simp; omega
  have := h.le
  exact ⟨by omega, h.nil, h.max, by rw [hl]; exact reads_take h.rd hn, h.byt.take n⟩
theorem open_bytes {H : Type} {enc : TypeId × Value → H} {w : World} {base b0 : Nat} {spare : Nat → Bool} {held : Bool} {r : Reach} {v : Value} {d : DataW H} {p : List MemPlace} (hv : Value.okWide Tryd.prog w r b0 22 v) (h : DataW.Trod enc Tryd.prog w base spare held 22 v d p) :
    ∃ (A : Option Addr) (b : List Int) (c : Nat), v = .slice A b.length c ∧ BS w A b c := by
  obtain ⟨a0, len0, cap0, rfl⟩ := okWide_slice Tryd.underlying22 hv
  obtain ⟨fuel, hf⟩ := h
  rcases open_ints Tryd.underlying22 Tryd.underlying5 cells_byteV hf with ⟨hcs, _⟩ | ⟨a, len, cap, zs, hcs, _, hl, hm, hz, _, hcell, hwf⟩
  · simp [Value.cells] at hcs
    obtain ⟨rfl, rfl, rfl⟩ := hcs
    exact ⟨none, [], 0, rfl, Nat.le_refl _, fun _ => rfl, by omega, ⟨rfl, by simp, fun h => by simp at h⟩, Byt.nil⟩
  · simp [Value.cells] at hcs
    obtain ⟨rfl, rfl, rfl⟩ := hcs
    have hlz : len0 ≤ zs.length := by rw [hz]; split <;> omega
    have ht : (zs.take len0).length = len0 := by simp; omega
    unfold maxLen at hm
    refine ⟨some a, zs.take len0, cap0, by rw [ht], by omega, (fun e => by cases e), by omega, ?_, fun n hn => ?_⟩
    · refine ⟨rfl, by omega, fun hp => ⟨a, rfl, fun j hj => ?_⟩⟩
      rw [ht] at hj
      rw [hcell j (by omega)]
      congr 2
      rw [List.getD_eq_getElem?_getD, List.getD_eq_getElem?_getD, List.getElem?_take, if_pos hj]
    · have := hwf n (List.mem_of_mem_take hn)
      simpa [Lit.wf, IntKind.u8] using bounds_u8 this
theorem ref_Few (A : Option Addr) (n c : Nat) (m : Nat) (w : World) (hc : n ≤ c) (hm : m ≤ 1000000) (hn : n ≤ 9223372036854775807) : Calls Tryd.prog 11 #[.slice A n c, .int .i64 m] w fun e w' => e = .returned (.slice A (min n m) c) ∧ w = w' := by
  by_cases h : m < n
  · have e := Lib.hid (show min n m = m by omega)
    have h1 : m ≤ c := by omega
    go_enter Tryd.func11, Tryd.ntmps11
    go_wp2
    go_ret
    exact ⟨by rw [e.out]; rfl, rfl⟩
  · have e := Lib.hid (show min n m = n by omega)
    go_enter Tryd.func11, Tryd.ntmps11
    go_wp2
    go_ret
    exact ⟨by rw [e.out]; rfl, rfl⟩
theorem oneP_canon {c : Int} {b r : List Int} {x : V8} (h : oneP c b = some (x, r)) : Canon x ∧ x.b.length ≤ b.length ∧ r.length ≤ b.length := by
  unfold oneP at h
  split at h
  · split at h
    · cases h
    · injection h with h; injection h with h1 h2; subst h1; subst h2
      exact ⟨⟨fun e => absurd rfl e, fun _ => rfl, fun _ => ⟨rfl, rfl, rfl, rfl⟩, fun _ => rfl⟩, by simp [v0], by simp⟩
  · split at h
    · split at h
      · cases h
      · injection h with h; injection h with h1 h2; subst h1; subst h2
        exact ⟨⟨fun e => absurd rfl e, fun _ => rfl, fun _ => ⟨rfl, rfl, rfl, rfl⟩, fun _ => rfl⟩, by simp [v0], by simp⟩
    · split at h
      · split at h
        · cases h
        · injection h with h; injection h with h1 h2; subst h1; subst h2
          exact ⟨⟨fun _ => rfl, fun e => absurd rfl e, fun _ => ⟨rfl, rfl, rfl, rfl⟩, fun _ => rfl⟩, by simp [v0], by simp⟩
      · split at h
        · split at h
          · cases h
          · injection h with h; injection h with h1 h2; subst h1; subst h2
            exact ⟨⟨fun _ => rfl, fun _ => rfl, fun e => absurd rfl e, fun _ => rfl⟩, by simp [v0], by simp⟩
        · injection h with h; injection h with h1 h2; subst h1; subst h2
          exact ⟨⟨fun _ => rfl, fun _ => rfl, fun _ => ⟨rfl, rfl, rfl, rfl⟩, fun e => absurd rfl e⟩, by simp, by simp⟩
theorem unpackFrom_canon {f : ByteArray} {b : List Int} : ∀ (k : Nat) (l : List V8) (r : List Int), unpackFrom f b k = some (l, r) → l.length = k ∧ r.length ≤ b.length ∧ ∀ x ∈ l, Canon x ∧ x.b.length ≤ b.length
  | 0, l, r, h => by injection h with h; injection h with h1 h2; subst h1; subst h2; exact ⟨rfl, Nat.le_refl _, fun x hx => by cases hx⟩
  | k + 1, l, r, h => by
    unfold unpackFrom at h
    split at h
    · cases h
    · rename_i l1 r1 h1
      split at h
      · cases h
      · rename_i x r2 h2
        injection h with h; injection h with e1 e2; subst e1; subst e2
        obtain ⟨a1, a2, a3⟩ := unpackFrom_canon k l1 r1 h1
        obtain ⟨c1, c2, c3⟩ := oneP_canon h2
        refine ⟨by simp [a1], by omega, fun y hy => ?_⟩
        rcases List.mem_append.1 hy with hy | hy
        · exact a3 y hy
        · rw [List.mem_singleton.1 hy]; exact ⟨c1, by omega⟩
theorem unpackP_canon (f : ByteArray) (b : List Int) : (unpackP f b).2.length ≤ 8 ∧ ∀ x ∈ (unpackP f b).2, Canon x ∧ x.b.length ≤ b.length := by
  unfold unpackP
  split
  · rename_i hf
    split
    · exact ⟨by simp, fun x hx => by cases hx⟩
    · rename_i l r h
      obtain ⟨a1, a2, a3⟩ := unpackFrom_canon _ _ _ h
      split
      · exact ⟨by have := formP_le hf; simp only; omega, a3⟩
      · exact ⟨by simp, fun x hx => by cases hx⟩
  · exact ⟨by simp, fun x hx => by cases hx⟩
theorem at8_mem {l : List V8} {i : Nat} (h : i < l.length) : at8 l i ∈ l := by
  unfold at8; rw [List.getD_eq_getElem?_getD, List.getElem?_eq_getElem h]; exact List.getElem_mem _
end Go.Proofs.YtinnaiofgbjicaaDoor
