/- The law ClientQuota: what a client has behind so many requests; the walk. -/
import Derived.Test.YtbkhcdmmnlkhdaaGreatQuoB
namespace Go.Proofs.YtbkhcdmmnlkhdaaGreat
open Go.RowKit Go.Maps Go.Proofs.YtbkhcdmmnlkhdaaGreatW.PrintWords
set_option linter.unusedSimpArgs false
set_option linter.unusedVariables false
set_option maxRecDepth 1000000
/-- The ids 1 to i: buffers, then surfaces. -/
def LL (n i : Nat) : List (Int × Int) := (List.range i).map (fun k => (((1 + k : Nat) : Int), if k < n then 1 else 2))
theorem LL_succ (n i : Nat) : LL n (i + 1) = LL n i ++ [(((1 + i : Nat) : Int), if i < n then 1 else 2)] := by simp [LL, List.range_succ]
theorem LL_len (n i : Nat) : (LL n i).length = i := by simp [LL]
theorem LL_mem {n i : Nat} {e : Int × Int} (h : e ∈ LL n i) : 1 ≤ e.1 ∧ e.1 ≤ i ∧ (e.2 = 1 ∨ e.2 = 2) := by
  obtain ⟨k, hk, rfl⟩ := List.mem_map.1 h
  have := List.mem_range.1 hk
  refine ⟨by simp; omega, by simp; omega, ?_⟩
  by_cases h : k < n <;> simp [h]
theorem LL_kinds (n i : Nat) : Kinds (LL n i) := fun e he => by rcases (LL_mem he).2.2 with h | h <;> omega
theorem LL_nodup (n i : Nat) : ((LL n i).map (·.1)).Nodup := by
  induction i with
  | zero => simp [LL]
  | succ i ih =>
    rw [LL_succ, List.map_append, List.nodup_append]
    refine ⟨ih, by simp, fun a ha b hb => ?_⟩
    obtain ⟨e, he, rfl⟩ := List.mem_map.1 ha
    have := (LL_mem he).2.1
    simp at hb
    subst hb
    omega
theorem LL_not (n i : Nat) : kindL (LL n i) ((1 + i : Nat) : Int) = 0 := by
  rw [kindL_in (LL_kinds n i)]
  intro h
  obtain ⟨e, he, h1⟩ := List.mem_map.1 h
  have := (LL_mem he).2.1
  omega
theorem LL_not' (n i j : Nat) (h : i ≤ j) : kindL (LL n i) ((1 + j : Nat) : Int) = 0 := by
  rw [kindL_in (LL_kinds n i)]
  intro h
  obtain ⟨e, he, h1⟩ := List.mem_map.1 h
  have := (LL_mem he).2.1
  omega
theorem add_ok (n i : Nat) (k : Int) (hk : k = 1 ∨ k = 2) (hi : i < 32) : addE (LL n i) ((1 + i : Nat) : Int) k = 0 := by
  unfold addE
  rw [if_neg (by omega), if_neg (by rw [LL_not]; simp), if_neg (by rw [LL_len]; omega)]
theorem add_full (n i : Nat) (k : Int) (hk : k = 1 ∨ k = 2) (hi : 32 ≤ i) (hm : i ≤ 1000) : addE (LL n 32) ((1 + i : Nat) : Int) k = 10 := by
  unfold addE
  rw [if_neg (by omega), if_neg (by rw [LL_not' _ _ _ hi]; simp), if_pos (LL_len _ _)]
theorem LL_one (n i : Nat) : (idsK (LL n i) 1).length = min n i := by
  unfold idsK
  rw [sorted_len, List.length_map]
  induction i with
  | zero => simp [LL]
  | succ i ih =>
    rw [LL_succ, List.filter_append, List.length_append, ih]
    by_cases h : i < n <;> simp [h] <;> omega
theorem LL_two (n i : Nat) : (idsK (LL n i) 2).length = i - min n i := by
  unfold idsK
  rw [sorted_len, List.length_map]
  induction i with
  | zero => simp [LL]
  | succ i ih =>
    rw [LL_succ, List.filter_append, List.length_append, ih]
    by_cases h : i < n <;> simp [h] <;> omega
/-- What a client has behind i requests. -/
structure QI (s : CS) (n i : Nat) : Prop where
  L : s.L = LL n (min i 32)
  tn : s.tn ≤ i
  pn : s.pn ≤ i
  sn : s.sn ≤ i
  n0 : 0 ≤ s.next
  n1 : s.next ≤ i
  B : ∀ e ∈ s.B, e.2.id ≤ i
  S : ∀ e ∈ s.S, e.1 ≤ i
theorem QI.zero (t bm p pm sm n : Nat) : QI (cs0 t bm p pm sm) n 0 := ⟨rfl, Nat.le_refl _, Nat.le_refl _, Nat.le_refl _, Int.le_refl _, Int.le_refl _, fun e he => (by cases he), fun e he => (by cases he)⟩
theorem QI.bd {s : CS} {n i : Nat} (h : QI s n i) (hi : i ≤ 1000) : CBd s := ⟨by rw [h.L, LL_len]; omega, by have := h.tn; omega, by have := h.pn; omega, by have := h.sn; omega, h.n0, by have := h.n1; omega⟩
theorem QI.make {s : CS} {n i : Nat} (h : QI s n i) (hi : i < 32) (hn : i < n) (b m : Nat) : QI (s.make ((1 + i : Nat) : Int) b m) n (i + 1) := by
  refine ⟨?_, ?_, ?_, ?_, ?_, ?_, ?_, ?_⟩
  · show s.L ++ [(((1 + i : Nat) : Int), (1 : Int))] = _
    rw [h.L, show min (i + 1) 32 = i + 1 by omega, show min i 32 = i by omega, LL_succ, if_pos hn]
  · show s.tn + 1 ≤ i + 1; have := h.tn; omega
  · show s.pn + 1 ≤ i + 1; have := h.pn; omega
  · show s.sn ≤ i + 1; have := h.sn; omega
  · show 0 ≤ s.next + 1; have := h.n0; omega
  · show s.next + 1 ≤ ((i + 1 : Nat) : Int); have := h.n1; omega
  · intro e he
    rcases List.mem_append.1 he with he | he
    · have := h.B e he; omega
    · simp only [List.mem_singleton] at he
      subst he
      show ((1 + i : Nat) : Int) ≤ ((i + 1 : Nat) : Int)
      omega
  · intro e he; have := h.S e he; omega
theorem QI.show {s : CS} {n i : Nat} (h : QI s n i) (hi : i < 32) (hn : ¬ i < n) (b sb : Nat) : QI (s.show ((1 + i : Nat) : Int) b sb) n (i + 1) := by
  refine ⟨?_, ?_, ?_, ?_, ?_, ?_, ?_, ?_⟩
  · show s.L ++ [(((1 + i : Nat) : Int), (2 : Int))] = _
    rw [h.L, show min (i + 1) 32 = i + 1 by omega, show min i 32 = i by omega, LL_succ, if_neg hn]
  · show s.tn + 1 ≤ i + 1; have := h.tn; omega
  · show s.pn ≤ i + 1; have := h.pn; omega
  · show s.sn + 1 ≤ i + 1; have := h.sn; omega
  · exact h.n0
  · show s.next ≤ ((i + 1 : Nat) : Int); have := h.n1; omega
  · intro e he; have := h.B e he; omega
  · intro e he
    rcases List.mem_append.1 he with he | he
    · have := h.S e he; omega
    · simp only [List.mem_singleton] at he
      subst he
      show ((1 + i : Nat) : Int) ≤ ((i + 1 : Nat) : Int)
      omega
theorem QI.more {s : CS} {n i : Nat} (h : QI s n i) (hi : 32 ≤ i) : QI s n (i + 1) :=
  ⟨by rw [h.L]; congr 1; omega, by have := h.tn; omega, by have := h.pn; omega, by have := h.sn; omega, h.n0, by have := h.n1; omega, fun e he => by have := h.B e he; omega, fun e he => by have := h.S e he; omega⟩
theorem make_foot2 {s : CS} {c : Nat} {id : Int} {b m B k : Nat} (h : (s.make id b m).foot c k) (h1 : ∀ k, s.foot c k → B ≤ k) (hb : B ≤ b) : B ≤ k := by
  rcases make_foot h with h | h
  · exact h1 k h
  · omega
def rqM (i : Nat) : Rq := ⟨0, ((1 + i : Nat) : Int), 1, 1, 0, 0, 0, 0, ⟨#[]⟩, none, 0, 0⟩
def rqS (i : Nat) : Rq := ⟨3, ((1 + i : Nat) : Int), 0, 0, 0, 0, 0, 0, ⟨#[]⟩, none, 0, 0⟩
theorem rqM_bd (i : Nat) (h : i ≤ 1000) : RBd (rqM i) := ⟨by show -9223372036854775808 ≤ (0 : Int) ∧ (0 : Int) ≤ 9223372036854775807; omega, by show -9223372036854775808 ≤ ((1 + i : Nat) : Int) ∧ ((1 + i : Nat) : Int) ≤ 9223372036854775807; omega, by show -9223372036854775808 ≤ (1 : Int) ∧ (1 : Int) ≤ 9223372036854775807; omega, by show -9223372036854775808 ≤ (1 : Int) ∧ (1 : Int) ≤ 9223372036854775807; omega⟩
theorem rqS_bd (i : Nat) (h : i ≤ 1000) : RBd (rqS i) := ⟨by show -9223372036854775808 ≤ (3 : Int) ∧ (3 : Int) ≤ 9223372036854775807; omega, by show -9223372036854775808 ≤ ((1 + i : Nat) : Int) ∧ ((1 + i : Nat) : Int) ≤ 9223372036854775807; omega, by show -9223372036854775808 ≤ (0 : Int) ∧ (0 : Int) ≤ 9223372036854775807; omega, by show -9223372036854775808 ≤ (0 : Int) ∧ (0 : Int) ≤ 9223372036854775807; omega⟩
/-- A request that is done; one that is refused. -/
def OkP (c n i B : Nat) (w : World) (e : Ending) (w' : World) : Prop := e = .returned (.tuple #[.slice none 0 0, .slice none 0 0]) ∧ ∃ s', Cli w' c s' ∧ QI s' n (i + 1) ∧ (∀ k, s'.foot c k → B ≤ k) ∧ Below B w w'
def NoP (c n i B : Nat) (s : CS) (op : Int) (w : World) (e : Ending) (w' : World) : Prop := ∃ g, e = .returned (.tuple #[.slice (some ⟨g, 0, none⟩) 1 1, .slice none 0 0]) ∧ w'.heap[g]? = some (.cells (Ev4.mk 0 ((1 + i : Nat) : Int) 10 op).cells 59 (0, 0)) ∧ Cli w' c s ∧ Below B w w' ∧ KeepF (s.foot c) w w'
theorem keep_low {F : Nat → Prop} {w w' : World} {B : Nat} (hk : KeepF F w w') (hF : ∀ k, F k → B ≤ k) (hB : B ≤ w.heap.size) : Below B w w' := ⟨hk.os, hk.tape, hk.output, hk.size, fun k hk' => hk.block k (by omega) (fun hf => by have := hF k hf; omega)⟩
theorem q_makeOk (c n i B : Nat) (s : CS) (w : World) (h : Cli w c s) (hq : QI s n i) (hi : i < 32) (hn : i < n) (hf : ∀ k, s.foot c k → B ≤ k) (hB : B ≤ w.heap.size) : Calls Tryz.prog 10 #[(.pointer (some ⟨c, 0, none⟩)), (rqM i).v] w (OkP c n i B w) := by
  have hL : s.L = LL n i := by rw [hq.L]; congr 1; omega
  refine (do_make c s (rqM i) w h (hq.bd (by omega)) (rqM_bd i (by omega)) rfl (fun _ => ?_)).mono fun e w' hp => ?_
  · have hnn : findP s.B (rqM i).id = (-1, 5) := findP_none (fun e he h2 => by
      have h3 := hq.B e he
      have h4 : e.2.id = ((1 + i : Nat) : Int) := h2.2
      omega)
    unfold makeE
    rw [hnn]
    exact (show (if (5 : Int) = 0 then (6 : Int) else newE 1 1) = 0 by decide)
  · obtain ⟨hk, h1 | h1⟩ := hp
    · obtain ⟨_, rfl, b, m, h2, h3, h4⟩ := h1
      exact ⟨rfl, _, h2, hq.make hi hn b m, fun k hk => make_foot2 hk hf (by omega), keep_low hk hf hB⟩
    · exact absurd (show addE s.L ((1 + i : Nat) : Int) 1 = 0 by rw [hL]; exact add_ok n i 1 (.inl rfl) hi) h1.1
theorem q_surfOk (c n i B : Nat) (s : CS) (w : World) (h : Cli w c s) (hq : QI s n i) (hi : i < 32) (hn : ¬ i < n) (hf : ∀ k, s.foot c k → B ≤ k) (hB : B ≤ w.heap.size) : Calls Tryz.prog 10 #[(.pointer (some ⟨c, 0, none⟩)), (rqS i).v] w (OkP c n i B w) := by
  have hL : s.L = LL n i := by rw [hq.L]; congr 1; omega
  refine (do_surface c s (rqS i) w h (hq.bd (by omega)) (rqS_bd i (by omega)) rfl (fun _ hm => ?_)).mono fun e w' hp => ?_
  · obtain ⟨e, he, h2⟩ := List.mem_map.1 hm
    have h3 := hq.S e he
    have h4 : e.1 = ((1 + i : Nat) : Int) := h2
    omega
  · obtain ⟨hk, h1 | h1⟩ := hp
    · obtain ⟨_, rfl, b, sb, h2, h3, h4⟩ := h1
      exact ⟨rfl, _, h2, hq.show hi hn b sb, fun k hk => show_foot2 hk hf (by omega) (by omega), keep_low hk hf hB⟩
    · exact absurd (show addE s.L ((1 + i : Nat) : Int) 2 = 0 by rw [hL]; exact add_ok n i 2 (.inr rfl) hi) h1.1
theorem q_makeNo (c n i B : Nat) (s : CS) (w : World) (h : Cli w c s) (hq : QI s n i) (hi : 32 ≤ i) (hm : i ≤ 1000) (hf : ∀ k, s.foot c k → B ≤ k) (hB : B ≤ w.heap.size) : Calls Tryz.prog 10 #[(.pointer (some ⟨c, 0, none⟩)), (rqM i).v] w (NoP c n i B s 0 w) := by
  have hL : s.L = LL n 32 := by rw [hq.L]; congr 1; omega
  have ha : addE s.L ((1 + i : Nat) : Int) 1 = 10 := by rw [hL]; exact add_full n i 1 (.inl rfl) hi hm
  refine (do_make c s (rqM i) w h (hq.bd hm) (rqM_bd i hm) rfl (fun h0 => ?_)).mono fun e w' hp => ?_
  · rw [show (rqM i).id = ((1 + i : Nat) : Int) from rfl, ha] at h0; cases h0
  · obtain ⟨hk, h1 | h1⟩ := hp
    · have h0 := h1.1
      rw [show (rqM i).id = ((1 + i : Nat) : Int) from rfl, ha] at h0; cases h0
    · obtain ⟨_, h2, v, rfl, g, rfl, h3⟩ := h1
      rw [show (rqM i).id = ((1 + i : Nat) : Int) from rfl, ha] at h3
      exact ⟨g, rfl, h3, h2, keep_low hk hf hB, hk⟩
theorem q_surfNo (c n i B : Nat) (s : CS) (w : World) (h : Cli w c s) (hq : QI s n i) (hi : 32 ≤ i) (hm : i ≤ 1000) (hf : ∀ k, s.foot c k → B ≤ k) (hB : B ≤ w.heap.size) : Calls Tryz.prog 10 #[(.pointer (some ⟨c, 0, none⟩)), (rqS i).v] w (NoP c n i B s 3 w) := by
  have hL : s.L = LL n 32 := by rw [hq.L]; congr 1; omega
  have ha : addE s.L ((1 + i : Nat) : Int) 2 = 10 := by rw [hL]; exact add_full n i 2 (.inr rfl) hi hm
  refine (do_surface c s (rqS i) w h (hq.bd hm) (rqS_bd i hm) rfl (fun h0 => ?_)).mono fun e w' hp => ?_
  · rw [show (rqS i).id = ((1 + i : Nat) : Int) from rfl, ha] at h0; cases h0
  · obtain ⟨hk, h1 | h1⟩ := hp
    · have h0 := h1.1
      rw [show (rqS i).id = ((1 + i : Nat) : Int) from rfl, ha] at h0; cases h0
    · obtain ⟨_, h2, v, rfl, g, rfl, h3⟩ := h1
      rw [show (rqS i).id = ((1 + i : Nat) : Int) from rfl, ha] at h3
      exact ⟨g, rfl, h3, h2, keep_low hk hf hB, hk⟩
end Go.Proofs.YtbkhcdmmnlkhdaaGreat
