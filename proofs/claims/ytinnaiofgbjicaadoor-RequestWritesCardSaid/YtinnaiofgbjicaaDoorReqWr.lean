/- What a round of RequestWrites calls. -/
import Derived.Test.YtinnaiofgbjicaaDoorReqZ
import Derived.Test.YtinnaiofgbjicaaDoorOpenQ
namespace Go.Proofs.YtinnaiofgbjicaaDoor
open Go.RowKit Go.Proofs.YtinnaiofgbjicaaDoorW.PrintWords
set_option linter.unusedSimpArgs false
set_option linter.unusedVariables false
set_option maxRecDepth 1000000
/-- A text's first bytes. -/
def cutS (s : ByteArray) : ByteArray := strOfNums ((bytesOf s).take (min s.size 300))
theorem cutS_size (s : ByteArray) : (cutS s).size ≤ 300 := by
  unfold cutS; rw [strNums_size, List.length_take]; omega
/-- What []byte(s) lays, and its room. -/
def capS (s : ByteArray) (w : World) : Nat := grownCap w s.size 0 5
def objS (s : ByteArray) (w : World) : Obj := .cells (bytesRow s (capS s w)) 5 ((bytesRow s (capS s w)).size, (bytesRow s (capS s w)).size + 1)
theorem conv_s (s : ByteArray) (w : World) : (convert 9 22 (.string s)).run Tryd.prog w = .ok (.slice (some ⟨w.heap.size, 0, none⟩) s.size (capS s w)) (w.drew.alloc (objS s w)) :=
  run_bytes_of_string w _ _ _ s Tryd.underlying9 Tryd.underlying22 Tryd.underlying5
theorem objS_reads (s : ByteArray) (w : World) (hs : s.size ≤ 9223372036854775807) : ReadsInt (w.drew.alloc (objS s w)) .u8 (some ⟨w.heap.size, 0, none⟩) s.size (bytesOf s) := by
  have hl : (bytesOf s).length = s.size := bytesOf_length s
  refine ⟨hl, hs, fun h0 => ⟨_, rfl, fun j hj => ?_⟩⟩
  have hb : (w.drew.alloc (objS s w)).heap[w.heap.size]? = some (.cells (bytesRow s (capS s w)) 5 ((bytesRow s (capS s w)).size, (bytesRow s (capS s w)).size + 1)) := by
    show (w.heap.push (objS s w))[w.heap.size]? = _
    simp [objS]
  have hj' : j < s.data.size := hj
  rw [add_p]
  simp only [World.cell?, hb, Nat.zero_add]
  rw [if_neg (by decide)]
  unfold bytesRow
  rw [Array.getElem?_append_left (by simpa using hj')]
  simp [bytesOf, hj']
  exact ⟨s.data[j], by rw [Array.getElem?_eq_getElem hj'], by rw [Array.getElem?_eq_getElem hj']; rfl⟩
theorem back_s (s : ByteArray) (w : World) (hs : s.size ≤ 9223372036854775807) : (convert 22 9 (.slice (some ⟨w.heap.size, 0, none⟩) (min s.size 300) (capS s w))).run Tryd.prog (w.drew.alloc (objS s w)) = .ok (.string (cutS s)) (w.drew.alloc (objS s w)) :=
  str_reads (reads_take (objS_reads s w hs) (Nat.min_le_left _ _))
theorem cap_ge (s : ByteArray) (w : World) : s.size ≤ capS s w := grownCap_ge w s.size 0 _
theorem few_s (s : ByteArray) (hs : s.size ≤ 9223372036854775807) (n : Nat) (W w : World) : Calls Tryd.prog 11 #[.slice (some ⟨n, 0, none⟩) s.size (capS s W), .int .i64 300] w fun e w' => e = .returned (.slice (some ⟨n, 0, none⟩) (min s.size 300) (capS s W)) ∧ w = w' :=
  ref_Few (some ⟨n, 0, none⟩) s.size (capS s W) 300 w (cap_ge s W) (by omega) hs
theorem after_s (s : ByteArray) (hs : s.size ≤ 9223372036854775807) (X w3 : World) (hw : (X.alloc (objS s X)).drew = w3) : Below X.heap.size X w3 ∧ X.heap.size + 1 ≤ w3.heap.size ∧ ∀ n, X.heap.size = n → (convert 22 9 (.slice (some ⟨n, 0, none⟩) (min s.size 300) (capS s X))).run Tryd.prog w3 = .ok (.string (cutS s)) w3 := by
  subst hw
  refine ⟨by (repeat (first | (with_reducible exact Below.refl _ _) | ((with_reducible refine Below.alloc ?_ ?hB _); (case hB => (first | omega | (simp; done) | (simp; omega)))) | ((with_reducible refine Below.setCell ?_ ?hB _); (case hB => (first | omega | (simp; done) | (simp; omega)))) | (with_reducible refine Below.drew ?_) | ((with_reducible refine below_ext_of ?_ ?hB); (case hB => (first | omega | (simp; done) | (simp; omega)))) | ((with_reducible refine Below.trans ?_ (Below.mono (by assumption) ?hB)); (case hB => (first | omega | (simp; done) | (simp; omega)))))), by simp, fun n hn => ?_⟩
  subst hn
  exact back_s s X hs
/-- What is asked of one request, at any world from here on. -/
structure QAll (W : World) (x : Q9) (i : Int) (m : M3) : Prop where
  enc : ∀ w D d, x.d.length ≤ d → ReadsInt w .u8 D x.d.length x.d → Below W.heap.size W w → Calls Tryd.prog 32 #[(.agg #[.int .i64 (x).op, .int .i64 (x).id, .int .i64 (x).a, .int .i64 (x).b, .int .i64 (x).x0, .int .i64 (x).y0, .int .i64 (x).x1, .int .i64 (x).y1, .string (x).s, .slice D (x).d.length d])] w (EncPost w (i, m))
  ref : ∀ w D d, x.d.length ≤ d → ReadsInt w .u8 D x.d.length x.d → Calls Tryd.prog 12 #[(.agg #[.int .i64 (x).op, .int .i64 (x).id, .int .i64 (x).a, .int .i64 (x).b, .int .i64 (x).x0, .int .i64 (x).y0, .int .i64 (x).x1, .int .i64 (x).y1, .string (x).s, .slice D (x).d.length d])] w (EncPost w (i, m))
  dec : i = 0 → ∀ w A c, BS w A m.b c → Below W.heap.size W w → Calls Tryd.prog 15 #[(.agg #[.int .i64 (m.op), .int .i64 (m.id), .slice (A) (m.b.length) (c)])] w (DecPost w (0, x))
  like : ∀ w A B c d, ReadsInt w .u8 A x.d.length x.d → ReadsInt w .u8 B x.d.length x.d → Calls Tryd.prog 17 #[(.agg #[.int .i64 (x).op, .int .i64 (x).id, .int .i64 (x).a, .int .i64 (x).b, .int .i64 (x).x0, .int .i64 (x).y0, .int .i64 (x).x1, .int .i64 (x).y1, .string (x).s, .slice A (x).d.length c]), (.agg #[.int .i64 (x).op, .int .i64 (x).id, .int .i64 (x).a, .int .i64 (x).b, .int .i64 (x).x0, .int .i64 (x).y0, .int .i64 (x).x1, .int .i64 (x).y1, .string (x).s, .slice B (x).d.length d])] w fun e w' => e = .returned (.bool true) ∧ Below w.heap.size w w'
  same : ∀ w A B c d, ReadsInt w .u8 A x.d.length x.d → ReadsInt w .u8 B x.d.length x.d → Calls Tryd.prog 35 #[(.agg #[.int .i64 (x).op, .int .i64 (x).id, .int .i64 (x).a, .int .i64 (x).b, .int .i64 (x).x0, .int .i64 (x).y0, .int .i64 (x).x1, .int .i64 (x).y1, .string (x).s, .slice A (x).d.length c]), (.agg #[.int .i64 (x).op, .int .i64 (x).id, .int .i64 (x).a, .int .i64 (x).b, .int .i64 (x).x0, .int .i64 (x).y0, .int .i64 (x).x1, .int .i64 (x).y1, .string (x).s, .slice B (x).d.length d])] w fun e w' => e = .returned (.bool true) ∧ Below w.heap.size w w'
theorem qall {W : World} (hT : Lib.Utf8Tabs 2 3 W) (x : Q9) (hx : x.Bd) : QAll W x (encO mayT x).1 (encO mayT x).2 where
  enc := fun w D d hl hr hb => q_Encode (Utf8Tabs_below hT hb) x hx D d hl hr
  ref := fun w D d hl hr => r_Encode x hx D d w hl hr
  dec := fun hi w A c hs hb => by
    have hd := enc_dec (q := x) (m := (encO mayT x).2) (Prod.ext hi rfl)
    have := q_Decode (Utf8Tabs_below hT hb) (encO mayT x).2.op (encO mayT x).2.id A _ c hs (by omega)
    rw [hd.1] at this
    exact this
  like := fun w A B c d hA hB => by
    have := law_like9 x x A B c d w hx.byt hx.byt hA hB
    rw [decide_eq_true (rfl : x = x)] at this
    exact this
  same := fun w A B c d hA hB => by
    have := req_Same x x A B c d w hA hB
    rw [decide_eq_true (rfl : x = x)] at this
    exact this
theorem sameM_rfl (m : M3) (A B : Option Addr) (c d : Nat) (w : World) (hA : BS w A m.b c) (hB : BS w B m.b d) : Calls Tryd.prog 34 #[(.agg #[.int .i64 (m.op), .int .i64 (m.id), .slice (A) (m.b.length) (c)]), (.agg #[.int .i64 (m.op), .int .i64 (m.id), .slice (B) (m.b.length) (d)])] w fun e w' => e = .returned (.bool true) ∧ Below w.heap.size w w' := by
  have := r7_Same m m A B c d w hA hB
  rw [decide_eq_true (rfl : m = m)] at this
  exact this
/-- The three requests' row, and the good one beside it. -/
structure RW3 (WX wr : World) (P G : Nat) (x0 x1 x2 : Q9) (A : Option Addr) (c : Nat) (D : Option Addr) (d : Nat) : Prop where
  blk : wr.heap[P]? = some (.cells #[.int .i64 (x0).op, .int .i64 (x0).id, .int .i64 (x0).a, .int .i64 (x0).b, .int .i64 (x0).x0, .int .i64 (x0).y0, .int .i64 (x0).x1, .int .i64 (x0).y1, .string (x0).s, .slice A (x0).d.length c, .int .i64 (x1).op, .int .i64 (x1).id, .int .i64 (x1).a, .int .i64 (x1).b, .int .i64 (x1).x0, .int .i64 (x1).y0, .int .i64 (x1).x1, .int .i64 (x1).y1, .string (x1).s, .slice D (x1).d.length d, .int .i64 (x2).op, .int .i64 (x2).id, .int .i64 (x2).a, .int .i64 (x2).b, .int .i64 (x2).x0, .int .i64 (x2).y0, .int .i64 (x2).x1, .int .i64 (x2).y1, .string (x2).s, .slice D (x2).d.length d] 28 (0, 0))
  gb : wr.heap[G]? = some (.cells #[.int .i64 (x1).op, .int .i64 (x1).id, .int .i64 (x1).a, .int .i64 (x1).b, .int .i64 (x1).x0, .int .i64 (x1).y0, .int .i64 (x1).x1, .int .i64 (x1).y1, .string (x1).s, .slice D (x1).d.length d] 28 (0, 0))
  s0 : x0.d.length ≤ c ∧ ReadsInt wr .u8 A x0.d.length x0.d
  s1 : x1.d.length ≤ d ∧ ReadsInt wr .u8 D x1.d.length x1.d
  s2 : x2.d.length ≤ d ∧ ReadsInt wr .u8 D x2.d.length x2.d
  bel : Below WX.heap.size WX wr
  siz : P < wr.heap.size
  gsz : G < wr.heap.size
theorem RW3.below {WX wr w : World} {P G : Nat} {x0 x1 x2 : Q9} {A : Option Addr} {c : Nat} {D : Option Addr} {d : Nat} (h : RW3 WX wr P G x0 x1 x2 A c D d) (hb : Below wr.heap.size wr w) : RW3 WX w P G x0 x1 x2 A c D d :=
  ⟨blk_belowB h.blk hb h.siz, blk_belowB h.gb hb h.gsz, ⟨h.s0.1, h.s0.2.below hb⟩, ⟨h.s1.1, h.s1.2.below hb⟩, ⟨h.s2.1, h.s2.2.below hb⟩, h.bel.trans (hb.mono h.bel.size), Nat.lt_of_lt_of_le h.siz hb.size, Nat.lt_of_lt_of_le h.gsz hb.size⟩
def QAt (wr : World) (P o : Nat) (x : Q9) (A : Option Addr) (c : Nat) : Prop := wr.cell? ⟨P, o, none⟩ = some (.int .i64 x.op) ∧ wr.cell? ⟨P, o + 1, none⟩ = some (.int .i64 x.id) ∧ wr.cell? ⟨P, o + 2, none⟩ = some (.int .i64 x.a) ∧ wr.cell? ⟨P, o + 3, none⟩ = some (.int .i64 x.b) ∧
  wr.cell? ⟨P, o + 4, none⟩ = some (.int .i64 x.x0) ∧ wr.cell? ⟨P, o + 5, none⟩ = some (.int .i64 x.y0) ∧ wr.cell? ⟨P, o + 6, none⟩ = some (.int .i64 x.x1) ∧ wr.cell? ⟨P, o + 7, none⟩ = some (.int .i64 x.y1) ∧ wr.cell? ⟨P, o + 8, none⟩ = some (.string x.s) ∧ wr.cell? ⟨P, o + 9, none⟩ = some (.slice A x.d.length c)
theorem RW3.at_ {W WX wr : World} {P G : Nat} {x0 x1 x2 : Q9} {A : Option Addr} {c : Nat} {D : Option Addr} {d : Nat} (h : RW3 WX wr P G x0 x1 x2 A c D d) {i0 i1 i2 : Int} {m0 m1 m2 : M3} (q0 : QAll W x0 i0 m0) (q1 : QAll W x1 i1 m1) (q2 : QAll W x2 i2 m2) (jj : Nat) (hj : jj < 3) :
    ∃ (x : Q9) (i : Int) (m : M3) (Dx : Option Addr) (dx : Nat), QAll W x i m ∧ QAt wr P (jj * 10) x Dx dx ∧ x.d.length ≤ dx ∧ ReadsInt wr .u8 Dx x.d.length x.d := by
  have h3 : jj = 0 ∨ jj = 1 ∨ jj = 2 := by omega
  have b := fun k => blk_cell h.blk k
  rcases h3 with rfl | rfl | rfl
  · exact ⟨_, _, _, _, _, q0, ⟨(b 0).trans rfl, (b 1).trans rfl, (b 2).trans rfl, (b 3).trans rfl, (b 4).trans rfl, (b 5).trans rfl, (b 6).trans rfl, (b 7).trans rfl, (b 8).trans rfl, (b 9).trans rfl⟩, h.s0⟩
  · exact ⟨_, _, _, _, _, q1, ⟨(b 10).trans rfl, (b 11).trans rfl, (b 12).trans rfl, (b 13).trans rfl, (b 14).trans rfl, (b 15).trans rfl, (b 16).trans rfl, (b 17).trans rfl, (b 18).trans rfl, (b 19).trans rfl⟩, h.s1⟩
  · exact ⟨_, _, _, _, _, q2, ⟨(b 20).trans rfl, (b 21).trans rfl, (b 22).trans rfl, (b 23).trans rfl, (b 24).trans rfl, (b 25).trans rfl, (b 26).trans rfl, (b 27).trans rfl, (b 28).trans rfl, (b 29).trans rfl⟩, h.s2⟩
end Go.Proofs.YtinnaiofgbjicaaDoor
