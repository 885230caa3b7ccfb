/- Messages the same; good requests, any operation. -/
import Derived.Test.YtinnaiofgbjicaaDoorGoodA
import Derived.Test.YtinnaiofgbjicaaDoorGoodB
import Derived.Test.YtinnaiofgbjicaaDoorGoodC
import Derived.Test.YtinnaiofgbjicaaDoorReqY
namespace Go.Proofs.YtinnaiofgbjicaaDoor
open Go.RowKit Go.Proofs.YtinnaiofgbjicaaDoorW.PrintWords
set_option linter.unusedSimpArgs false
set_option linter.unusedVariables false
set_option maxRecDepth 1000000
theorem r9_Good (q : Q9) (hq : q.Bw) (A : Option Addr) (c : Nat) (w : World) (hdc : q.d.length ≤ c) (hrd : ReadsInt w .u8 A q.d.length q.d) : Calls Tryd.prog 13 #[(.agg #[.int .i64 q.op, .int .i64 q.id, .int .i64 q.a, .int .i64 q.b, .int .i64 q.x0, .int .i64 q.y0, .int .i64 q.x1, .int .i64 q.y1, .string q.s, .slice A q.d.length c])] w (GudP w (goodQ q)) := by
  have ho := around_bd q.op 19 (by omega)
  have h19 : around q.op 19 = 0 ∨ around q.op 19 = 1 ∨ around q.op 19 = 2 ∨ around q.op 19 = 3 ∨ around q.op 19 = 4 ∨ around q.op 19 = 5 ∨ around q.op 19 = 6 ∨ around q.op 19 = 7 ∨ around q.op 19 = 8 ∨ around q.op 19 = 9 ∨ around q.op 19 = 10 ∨ around q.op 19 = 11 ∨ around q.op 19 = 12 ∨ around q.op 19 = 13 ∨ around q.op 19 = 14 ∨ around q.op 19 = 15 ∨ around q.op 19 = 16 ∨ around q.op 19 = 17 ∨ around q.op 19 = 18 := by omega
  rcases h19 with h | h | h | h | h | h | h | h | h | h | h | h | h | h | h | h | h | h | h
  · exact good_0 q hq h A c w hdc hrd
  · exact good_1 q hq h A c w hdc hrd
  · exact good_2 q hq h A c w hdc hrd
  · exact good_3 q hq h A c w hdc hrd
  · exact good_4 q hq h A c w hdc hrd
  · exact good_5 q hq h A c w hdc hrd
  · exact good_6 q hq h A c w hdc hrd
  · exact good_7 q hq h A c w hdc hrd
  · exact good_8 q hq h A c w hdc hrd
  · exact good_9 q hq h A c w hdc hrd
  · exact good_10 q hq h A c w hdc hrd
  · exact good_11 q hq h A c w hdc hrd
  · exact good_12 q hq h A c w hdc hrd
  · exact good_13 q hq h A c w hdc hrd
  · exact good_14 q hq h A c w hdc hrd
  · exact good_15 q hq h A c w hdc hrd
  · exact good_16 q hq h A c w hdc hrd
  · exact good_17 q hq h A c w hdc hrd
  · exact good_18 q hq h A c w hdc hrd
def SmallQ (x : Q9) : Prop := x.Bd ∧ x.d.length ≤ 64 ∧ x.s.size ≤ 80
theorem ite_S {c : Prop} [Decidable c] {a b : Q9} (ha : SmallQ a) (hb : SmallQ b) : SmallQ (if c then a else b) := by split <;> assumption
theorem goodQ_bd (q : Q9) (hq : q.Bw) : SmallQ (goodQ q) := by
  have ho := around_bd q.op 19 (by omega)
  have hi := around_bd q.id 9 (by omega)
  have a3 := around_bd q.a 3 (by omega)
  have a10 := around_bd q.a 10 (by omega)
  have a16 := around_bd q.a 16 (by omega)
  have a40 := around_bd q.a 40 (by omega)
  have a256 := around_bd q.a 256 (by omega)
  have b16 := around_bd q.b 16 (by omega)
  have b40 := around_bd q.b 40 (by omega)
  have x8 := around_bd q.x0 8 (by omega)
  have y8 := around_bd q.y0 8 (by omega)
  have x4 := around_bd q.x1 4 (by omega)
  have y4 := around_bd q.y1 4 (by omega)
  have x24 := around_bd q.x0 24 (by omega)
  have y24 := around_bd q.y0 24 (by omega)
  have x13 := around_bd q.x1 13 (by omega)
  have y13 := around_bd q.y1 13 (by omega)
  have hsz : (cleanP (q.s.extract 0 (min q.s.size 20))).size ≤ 80 := by
    have h1 := outB_size (q.s.extract 0 (min q.s.size 20)) ((poss (q.s.extract 0 (min q.s.size 20))).take 64)
    have h2 := poss_len (q.s.extract 0 (min q.s.size 20))
    have h3 := ext20 q.s
    have h4 : ((poss (q.s.extract 0 (min q.s.size 20))).take 64).length ≤ 20 := by rw [List.length_take]; omega
    show (outB _ _).size ≤ 80
    omega
  have htk : (q.d.take 64).length ≤ 64 := by rw [List.length_take]; omega
  have hby : Byt (q.d.take 64) := fun n hn => hq.byt n (List.mem_of_mem_take hn)
  have e0 : ({ data := #[] } : ByteArray).size = 0 := rfl
  unfold goodQ rSmall
  repeat' refine ite_S ?_ ?_
  all_goals
    refine ⟨⟨?_, ?_, ?_, ?_, ?_, ?_, ?_, ?_, ?_, ?_, ?_⟩, ?_, ?_⟩
    all_goals first | (simp only; omega) | exact Byt.nil | exact hby | (simp only [e0]; omega) | (simp only [List.length_nil]; omega)
theorem enc_dec {T : ByteArray → Bool} {q : Q9} {m : M3} (h : encO T q = (0, m)) : decO T m.op m.id m.b = (0, q) ∧ m.b.length ≤ 4096 := by
  unfold encO at h
  split at h
  · rename_i hop
    obtain ⟨k, hk⟩ := Int.eq_ofNat_of_zero_le hop.1
    rw [hk] at h
    have hk' : ((k : Nat) : Int).toNat = k := rfl
    rw [hk'] at h
    have hpl := packP_len (formQ k) (argsQ k q)
    unfold encK at h
    split at h
    · rename_i hc
      injection h with _ h; subst h
      simp only
      rw [decO_k T (by omega)]
      exact ⟨Prod.ext hc.2.2.1 hc.2.2.2, hpl⟩
    · injection h with h; cases h
  · injection h with h; cases h
instance : DecidableEq M3 := fun x y => decidable_of_iff (x.op = y.op ∧ x.id = y.id ∧ x.b = y.b) (by cases x; cases y; simp [M3.mk.injEq])
theorem law_like9 (x y : Q9) (A B : Option Addr) (c1 c2 : Nat) (w : World) (hx : Byt x.d) (hy : Byt y.d) (hA : ReadsInt w .u8 A x.d.length x.d) (hB : ReadsInt w .u8 B y.d.length y.d) : Calls Tryd.prog 17 #[(.agg #[.int .i64 x.op, .int .i64 x.id, .int .i64 x.a, .int .i64 x.b, .int .i64 x.x0, .int .i64 x.y0, .int .i64 x.x1, .int .i64 x.y1, .string x.s, .slice A x.d.length c1]), (.agg #[.int .i64 y.op, .int .i64 y.id, .int .i64 y.a, .int .i64 y.b, .int .i64 y.x0, .int .i64 y.y0, .int .i64 y.x1, .int .i64 y.y1, .string y.s, .slice B y.d.length c2])] w fun e w' => e = .returned (.bool (decide (x = y))) ∧ Below w.heap.size w w' := by
  have c9 : ∀ w1, Below w.heap.size w w1 → Calls Tryd.prog 36 #[(.agg #[.int .i64 x.op, .int .i64 x.id, .int .i64 x.a, .int .i64 x.b, .int .i64 x.x0, .int .i64 x.y0, .int .i64 x.x1, .int .i64 x.y1, .string x.s, .slice A x.d.length c1]), (.agg #[.int .i64 y.op, .int .i64 y.id, .int .i64 y.a, .int .i64 y.b, .int .i64 y.x0, .int .i64 y.y0, .int .i64 y.x1, .int .i64 y.y1, .string y.s, .slice B y.d.length c2])] w1 fun e w' => e = .returned (.bool (decide (x = y))) ∧ Below w1.heap.size w1 w' := fun w1 hb => ref_Same9 x y A B c1 c2 w1 hx hy (hA.below hb) (hB.below hb)
  generalize decide (x = y) = v at *
  clear hA hB hx hy
  go_enter Tryd.func17, Tryd.ntmps17
  go_wp2_with (first | (go_at_call 36; (with_reducible refine (c9 _ ?_).mono ?_); (focus ((repeat (first | (with_reducible exact Below.refl _ _) | ((with_reducible refine Below.alloc ?_ ?hB _); (case hB => (first | omega | (simp; done) | (simp; omega)))) | ((with_reducible refine Below.setCell ?_ ?hB _); (case hB => (first | omega | (simp; done) | (simp; omega)))) | (with_reducible refine Below.drew ?_) | ((with_reducible refine below_ext_of ?_ ?hB); (case hB => (first | omega | (simp; done) | (simp; omega)))) | ((with_reducible refine Below.trans ?_ (Below.mono (by assumption) ?hB)); (case hB => (first | omega | (simp; done) | (simp; omega)))))); done)); rintro en w1 ⟨rfl, hb1⟩; have hz1 := hb1.size))
  (go_ret; refine ⟨?_, by (repeat (first | (with_reducible exact Below.refl _ _) | ((with_reducible refine Below.alloc ?_ ?hB _); (case hB => (first | omega | (simp; done) | (simp; omega)))) | ((with_reducible refine Below.setCell ?_ ?hB _); (case hB => (first | omega | (simp; done) | (simp; omega)))) | (with_reducible refine Below.drew ?_) | ((with_reducible refine below_ext_of ?_ ?hB); (case hB => (first | omega | (simp; done) | (simp; omega)))) | ((with_reducible refine Below.trans ?_ (Below.mono (by assumption) ?hB)); (case hB => (first | omega | (simp; done) | (simp; omega))))))⟩); rfl
end Go.Proofs.YtinnaiofgbjicaaDoor
