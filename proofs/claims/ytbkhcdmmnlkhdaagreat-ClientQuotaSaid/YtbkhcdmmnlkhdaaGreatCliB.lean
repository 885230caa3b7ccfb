/- A client: what it is made of; a new one; a new surface. -/
import Derived.Test.YtbkhcdmmnlkhdaaGreatPoolB
namespace Go.Proofs.YtbkhcdmmnlkhdaaGreat
open Go.RowKit Go.Maps Go.Proofs.YtbkhcdmmnlkhdaaGreatW.PrintWords
set_option linter.unusedSimpArgs false
set_option linter.unusedVariables false
set_option maxRecDepth 1000000
/-- A request's value. -/
structure Rq where
  op : Int
  id : Int
  a : Int
  b : Int
  x0 : Int
  y0 : Int
  x1 : Int
  y1 : Int
  s : ByteArray
  A : Option Addr
  n : Nat
  m : Nat
def Rq.cells (r : Rq) : Array Value := #[.int .i64 r.op, .int .i64 r.id, .int .i64 r.a, .int .i64 r.b, .int .i64 r.x0, .int .i64 r.y0, .int .i64 r.x1, .int .i64 r.y1, .string r.s, .slice r.A r.n r.m]
def Rq.v (r : Rq) : Value := .agg r.cells
/-- A slice's three words. -/
structure Sl where
  A : Option Addr
  n : Nat
  c : Nat
def Sl.v (s : Sl) : Value := .slice s.A s.n s.c
/-- A surface's state. -/
structure St where
  im : Option Addr
  x : Int
  y : Int
  sc : Int
  al : Int
  cx0 : Int
  cy0 : Int
  cx1 : Int
  cy1 : Int
  opq : Sl
  ti : ByteArray
def St.l (s : St) : List Value := [.pointer s.im, .int .i64 s.x, .int .i64 s.y, .int .i64 s.sc, .int .i64 s.al, .int .i64 s.cx0, .int .i64 s.cy0, .int .i64 s.cx1, .int .i64 s.cy1, .slice s.opq.A s.opq.n s.opq.c, .string s.ti]
/-- A surface: what is committed, and what is pending. -/
structure Sf where
  now : St
  p : St
  att : Option Addr
  dmg : Sl
  d0 : Int
  d1 : Int
  d2 : Int
  d3 : Int
  fr : Sl
def Sf.l (s : Sf) : List Value := s.now.l ++ (s.p.l ++ [.pointer s.att, .slice s.dmg.A s.dmg.n s.dmg.c, .int .i64 s.d0, .int .i64 s.d1, .int .i64 s.d2, .int .i64 s.d3, .slice s.fr.A s.fr.n s.fr.c])
def st0 : St := ⟨none, 0, 0, 1, 255, -1048576, -1048576, 1048576, 1048576, ⟨none, 0, 0⟩, ⟨#[]⟩⟩
def sf0 : Sf := ⟨st0, st0, none, ⟨none, 0, 0⟩, 0, 0, 0, 0, ⟨none, 0, 0⟩⟩
/-- What a client shows: its block, its surface's, its buffers, its order. -/
structure Sh where
  b : Nat
  sb : Nat
  att : Int
  com : Int
  ord : Int
  ov : Int
  sf : Sf
def Sh.obj (s : Sh) : Obj := .cells #[(.pointer (some ⟨s.sb, 0, none⟩)), .int .i64 s.att, .int .i64 s.com, .int .i64 s.ord, .int .i64 s.ov] 179 (0, 0)
def lookN : List (Int × Nat) → Int → Option Nat
  | [], _ => none
  | e :: l, x => if e.1 = x then some e.2 else lookN l x
theorem lookN_mem {l : List (Int × Nat)} {x : Int} {b : Nat} (h : lookN l x = some b) : (x, b) ∈ l := by
  induction l with
  | nil => cases h
  | cons e l ih =>
    simp only [lookN] at h
    split at h
    · rename_i he
      injection h with h
      subst h; subst he
      exact List.mem_cons_self ..
    · exact List.mem_cons_of_mem _ (ih h)
theorem lookN_of {l : List (Int × Nat)} {e : Int × Nat} (hnd : (l.map (·.1)).Nodup) (h : e ∈ l) : lookN l e.1 = some e.2 := by
  induction l with
  | nil => cases h
  | cons y l ih =>
    simp only [lookN]
    rcases List.mem_cons.1 h with rfl | h
    · rw [if_pos rfl]
    · rw [List.map_cons, List.nodup_cons] at hnd
      rw [if_neg (fun he => hnd.1 (by rw [he]; exact List.mem_map_of_mem h)), ih hnd.2 h]
theorem lookN_snoc (l : List (Int × Nat)) (x : Int) (f : Nat) (y : Int) (h : x ∉ l.map (·.1)) : lookN (l ++ [(x, f)]) y = if x = y then some f else lookN l y := by
  induction l with
  | nil => simp [lookN]
  | cons e L ih =>
    simp only [List.map_cons, List.mem_cons, not_or] at h
    simp only [List.cons_append, lookN]
    rw [ih h.2]
    by_cases h1 : e.1 = y
    · rw [if_pos h1, if_neg (fun e2 => h.1 (e2.trans h1.symm)), if_pos h1]
    · rw [if_neg h1, if_neg h1]
/-- A map of pointers as read. -/
structure MapN (D : DataW Unit) (l : List (Int × Nat)) : Prop where
  at_ : ∀ x b, lookN l x = some b → ∀ z, D.atKey (.int .i64 x) z = .lit (.int .i64 b)
  in_ : ∀ x, Maps.has D (.int .i64 x) = (lookN l x).isSome
theorem MapN.nil : MapN (.map []) [] := ⟨fun x f h => (by cases h), fun x => rfl⟩
theorem MapN.put {D : DataW Unit} {l : List (Int × Nat)} (h : MapN D l) (hT : Tidy D) (x : Int) (f : Nat) (hx : x ∉ l.map (·.1)) : MapN (D.put (.int .i64 x) (.lit (.int .i64 f))) (l ++ [(x, f)]) := by
  have hin : ∀ y, Maps.has (D.put (.int .i64 x) (.lit (.int .i64 f))) (.int .i64 y) = (lookN (l ++ [(x, f)]) y).isSome := fun y => by
    rw [lookN_snoc l x f y hx]
    by_cases hy : x = y
    · subst hy
      rw [has_put_same hT.isMap (isKeyI x)]; simp
    · rw [has_put_other (key_ne (fun e => hy e.symm)), h.in_, if_neg hy]
  refine ⟨fun y g hg z => ?_, hin⟩
  rw [lookN_snoc l x f y hx] at hg
  by_cases hy : x = y
  · subst hy
    rw [if_pos rfl] at hg
    injection hg with hg
    subst hg
    rw [atKey_put_same hT.isMap (isKeyI x)]
  · rw [if_neg hy] at hg
    rw [atKey_put_other (key_ne (fun e => hy e.symm)), h.at_ y g hg]
def shN (S : List (Int × Sh)) : List (Int × Nat) := S.map (fun e => (e.1, e.2.b))
theorem shN_keys (S : List (Int × Sh)) : (shN S).map (·.1) = S.map (·.1) := by unfold shN; rw [List.map_map]; rfl
/-- What a client is made of. -/
structure CS where
  t : Nat
  bm : Nat
  tn : Nat
  L : List (Int × Int)
  p : Nat
  pm : Nat
  pn : Nat
  next : Int
  B : List (Int × Bf)
  sm : Nat
  sn : Nat
  S : List (Int × Sh)
/-- A client at block c. -/
structure Cli (w : World) (c : Nat) (s : CS) : Prop where
  blk : w.heap[c]? = some (.cells #[(.pointer (some ⟨s.t, 0, none⟩)), (.pointer (some ⟨s.p, 0, none⟩)), .map (some s.sm)] 88 (0, 0))
  tab : Tab w s.t s.bm s.tn s.L
  kinds : Kinds s.L
  pool : PoolI w s.p s.pm s.pn s.next s.B
  smap : ∃ D : DataW Unit, w.ownsMap Tryz.prog 3 elemP s.sm s.sn D ∧ MapN D (shN s.S)
  skeys : (s.S.map (·.1)).Nodup
  shs : ∀ e ∈ s.S, w.heap[e.2.b]? = some e.2.obj
  sus : ∀ e ∈ s.S, w.heap[e.2.sb]? = some (.cells e.2.sf.l.toArray 228 (0, 0))
  ne1 : s.bm ≠ s.pm
  ne2 : s.bm ≠ s.sm
  ne3 : s.pm ≠ s.sm
def CS.foot (s : CS) (c k : Nat) : Prop := k = c ∨ k = s.t ∨ k = s.bm ∨ k = s.p ∨ k = s.pm ∨ k = s.sm ∨ (∃ e ∈ s.B, k = e.2.b) ∨ (∃ e ∈ s.S, k = e.2.b ∨ k = e.2.sb)
section
variable {s : CS} {c : Nat}
theorem CS.foot_c : s.foot c c := .inl rfl
theorem CS.foot_t : s.foot c s.t := .inr (.inl rfl)
theorem CS.foot_bm : s.foot c s.bm := .inr (.inr (.inl rfl))
theorem CS.foot_p : s.foot c s.p := .inr (.inr (.inr (.inl rfl)))
theorem CS.foot_pm : s.foot c s.pm := .inr (.inr (.inr (.inr (.inl rfl))))
theorem CS.foot_sm : s.foot c s.sm := .inr (.inr (.inr (.inr (.inr (.inl rfl)))))
theorem CS.foot_b {e : Int × Bf} (h : e ∈ s.B) : s.foot c e.2.b := .inr (.inr (.inr (.inr (.inr (.inr (.inl ⟨e, h, rfl⟩))))))
theorem CS.foot_sh {e : Int × Sh} (h : e ∈ s.S) : s.foot c e.2.b := .inr (.inr (.inr (.inr (.inr (.inr (.inr ⟨e, h, .inl rfl⟩))))))
theorem CS.foot_su {e : Int × Sh} (h : e ∈ s.S) : s.foot c e.2.sb := .inr (.inr (.inr (.inr (.inr (.inr (.inr ⟨e, h, .inr rfl⟩))))))
end
theorem Tab.keep {F : Nat → Prop} {w w1 : World} {p bm n : Nat} {L : List (Int × Int)} (h : Tab w p bm n L) (hk : KeepF F w w1) (h1 : ¬ F p) (h2 : ¬ F bm) : Tab w1 p bm n L := by
  obtain ⟨D, hown, hL⟩ := h.own
  exact ⟨hk.blk h.blk h1, D, hk.ownsMap hown h2, hL⟩
theorem PoolI.keep {F : Nat → Prop} {w w1 : World} {p pm n : Nat} {next : Int} {l : List (Int × Bf)} (h : PoolI w p pm n next l) (hk : KeepF F w w1) (h1 : ¬ F p) (h2 : ¬ F pm) (h3 : ∀ e ∈ l, ¬ F e.2.b) : PoolI w1 p pm n next l := by
  obtain ⟨D, hown, hL⟩ := h.own
  exact ⟨hk.blk h.blk h1, ⟨D, hk.ownsMap hown h2, hL⟩, fun e he => hk.blk (h.bufs e he) (h3 e he), h.keys, h.low, h.names⟩
theorem Cli.keep {F : Nat → Prop} {w w1 : World} {c : Nat} {s : CS} (h : Cli w c s) (hk : KeepF F w w1) (hF : ∀ k, s.foot c k → ¬ F k) : Cli w1 c s := by
  obtain ⟨D, hown, hL⟩ := h.smap
  exact ⟨hk.blk h.blk (hF _ (.inl rfl)), h.tab.keep hk (hF _ (.inr (.inl rfl))) (hF _ (.inr (.inr (.inl rfl)))), h.kinds,
    h.pool.keep hk (hF _ (.inr (.inr (.inr (.inl rfl))))) (hF _ (.inr (.inr (.inr (.inr (.inl rfl)))))) (fun e he => hF _ (.inr (.inr (.inr (.inr (.inr (.inr (.inl ⟨e, he, rfl⟩)))))))),
    ⟨D, hk.ownsMap hown (hF _ (.inr (.inr (.inr (.inr (.inr (.inl rfl))))))), hL⟩, h.skeys,
    fun e he => hk.blk (h.shs e he) (hF _ (.inr (.inr (.inr (.inr (.inr (.inr (.inr ⟨e, he, .inl rfl⟩)))))))),
    fun e he => hk.blk (h.sus e he) (hF _ (.inr (.inr (.inr (.inr (.inr (.inr (.inr ⟨e, he, .inr rfl⟩)))))))), h.ne1, h.ne2, h.ne3⟩
theorem Cli.foot_lt {w : World} {c : Nat} {s : CS} (h : Cli w c s) {k : Nat} (hk : s.foot c k) : k < w.heap.size := by
  rcases hk with h1 | h1 | h1 | h1 | h1 | h1 | ⟨e, he, h1⟩ | ⟨e, he, h1 | h1⟩
  · subst h1; exact blk_lt h.blk
  · subst h1; exact blk_lt h.tab.blk
  · subst h1; exact h.tab.own.choose_spec.1.lt
  · subst h1; exact blk_lt h.pool.blk
  · subst h1; exact h.pool.own.choose_spec.1.lt
  · subst h1; exact h.smap.choose_spec.1.lt
  · subst h1; exact blk_lt (h.pool.bufs e he)
  · subst h1; exact blk_lt (h.shs e he)
  · subst h1; exact blk_lt (h.sus e he)
theorem Cli.below {w w1 : World} {c : Nat} {s : CS} (h : Cli w c s) (hb : Below w.heap.size w w1) : Cli w1 c s := h.keep (KeepF.of_below' (F := fun _ => False) hb) (fun _ _ => id)
def cs0 (t bm p pm sm : Nat) : CS := ⟨t, bm, 0, [], p, pm, 0, 0, [], sm, 0, []⟩
def NewC (w : World) (e : Ending) (w' : World) : Prop := ∃ c t bm p pm sm, e = .returned (.pointer (some ⟨c, 0, none⟩)) ∧ Cli w' c (cs0 t bm p pm sm) ∧ (∀ k, (cs0 t bm p pm sm).foot c k → w.heap.size ≤ k) ∧ Below w.heap.size w w'
theorem cli_New (w : World) : Calls Tryz.prog 8 #[] w (NewC w) := by
  have hmm := @run_makeMap Tryz.prog
  have ci := ids_New
  have cp := pool_New
  go_enter Tryz.func8, Tryz.ntmps8
  go_wp2_with (first | (go_at_call 27; (with_reducible refine (ci _).mono ?_); rintro e w1 ⟨rfl, ht, hb1⟩; have hz1 := hb1.size) | (go_at_call 28; (with_reducible refine (cp _).mono ?_); rintro e w2 ⟨rfl, hp, hb2⟩; have hz2 := hb2.size))
  go_ret
  have l1 := ht.own.choose_spec.1.lt
  have l2 := hp.own.choose_spec.1.lt
  have l3 := blk_lt ht.blk
  have l4 := blk_lt hp.blk
  have hm := World.ownsMap_made w2 Tryz.prog 3 elemP
  have hb3 : Below w2.heap.size w2 ((w2.alloc (.map #[] 0)).alloc (.cells #[(.pointer (some ⟨w.heap.size + 1, 0, none⟩)), (.pointer (some ⟨w1.heap.size + 1, 0, none⟩)), .map (some w2.heap.size)] 88)) := Below.alloc (Below.alloc (Below.refl _ _) (Nat.le_refl _) _) (by simp) _
  refine ⟨w2.heap.size + 1, w.heap.size + 1, w.heap.size, w1.heap.size + 1, w1.heap.size, w2.heap.size, rfl, ⟨?_, (ht.below hb2).below hb3, fun e he => (by cases he), hp.below hb3, ⟨_, hm.alloc _, MapN.nil⟩, List.nodup_nil, fun e he => (by cases he), fun e he => (by cases he), ?_, ?_, ?_⟩, ?_, ?_⟩
  · have := blk_new (w2.alloc (.map #[] 0)) (.cells #[(.pointer (some ⟨w.heap.size + 1, 0, none⟩)), (.pointer (some ⟨w1.heap.size + 1, 0, none⟩)), .map (some w2.heap.size)] 88); rwa [World.size_alloc] at this
  · show w.heap.size ≠ w1.heap.size; omega
  · show w.heap.size ≠ w2.heap.size; omega
  · show w1.heap.size ≠ w2.heap.size; omega
  · rintro k (h | h | h | h | h | h | ⟨e, he, _⟩ | ⟨e, he, _⟩)
    · omega
    · change k = w.heap.size + 1 at h; omega
    · change k = w.heap.size at h; omega
    · change k = w1.heap.size + 1 at h; omega
    · change k = w1.heap.size at h; omega
    · change k = w2.heap.size at h; omega
    · cases he
    · cases he
  · (repeat (first | (with_reducible exact Below.refl _ _) | ((with_reducible refine Below.alloc ?_ ?hB _); (case hB => (first | omega | (simp; done) | (simp; omega)))) | ((with_reducible refine Below.setCell ?_ ?hB _); (case hB => (first | omega | (simp; done) | (simp; omega)))) | (with_reducible refine Below.drew ?_) | ((with_reducible refine below_ext_of ?_ ?hB); (case hB => (first | omega | (simp; done) | (simp; omega)))) | ((with_reducible refine Below.trans ?_ (Below.mono (by assumption) ?hB)); (case hB => (first | omega | (simp; done) | (simp; omega))))))
theorem cli_bad (e : Int) (w : World) : Calls Tryz.prog 85 #[.int .i64 e] w fun en w' => en = .returned (.agg #[.slice none 0 0, .slice none 0 0, .int .i64 (e)]) ∧ Below w.heap.size w w' := by
  go_enter Tryz.func85, Tryz.ntmps85
  go_wp2
  (refine bodyPost_ret (by simp [results, Tryz.results85, go_sem, ↓IntWalk.iteOmega, *]; rfl) rfl ⟨?_, by (repeat (first | (with_reducible exact Below.refl _ _) | ((with_reducible refine Below.alloc ?_ ?hB _); (case hB => (first | omega | (simp; done) | (simp; omega)))) | ((with_reducible refine Below.setCell ?_ ?hB _); (case hB => (first | omega | (simp; done) | (simp; omega)))) | (with_reducible refine Below.drew ?_) | ((with_reducible refine below_ext_of ?_ ?hB); (case hB => (first | omega | (simp; done) | (simp; omega)))) | ((with_reducible refine Below.trans ?_ (Below.mono (by assumption) ?hB)); (case hB => (first | omega | (simp; done) | (simp; omega))))))⟩; rfl)
theorem surf_New (w : World) : Calls Tryz.prog 92 #[] w fun e w' => e = .returned (.pointer (some ⟨w.heap.size + 1, 0, none⟩)) ∧ w'.heap[w.heap.size + 1]? = some (.cells sf0.l.toArray 228 (0, 0)) ∧ w'.heap.size = w.heap.size + 2 ∧ Below w.heap.size w w' := by
  go_enter Tryz.func92, Tryz.ntmps92
  go_wp2
  go_ret
  refine ⟨rfl, ?_, by simp, by (repeat (first | (with_reducible exact Below.refl _ _) | ((with_reducible refine Below.alloc ?_ ?hB _); (case hB => (first | omega | (simp; done) | (simp; omega)))) | ((with_reducible refine Below.setCell ?_ ?hB _); (case hB => (first | omega | (simp; done) | (simp; omega)))) | (with_reducible refine Below.drew ?_) | ((with_reducible refine below_ext_of ?_ ?hB); (case hB => (first | omega | (simp; done) | (simp; omega)))) | ((with_reducible refine Below.trans ?_ (Below.mono (by assumption) ?hB)); (case hB => (first | omega | (simp; done) | (simp; omega))))))⟩
  exact (World.size_alloc w _) ▸ blk_new (w.alloc _) (.cells sf0.l.toArray 228)
end Go.Proofs.YtbkhcdmmnlkhdaaGreat
