/- A key put at a place of what is left without it, walked. -/
import Derived.Test.YteldbnelfeiifaaStkL
import Derived.Deep.RegionWith
namespace Go.Proofs.Yteldbnelfeiifaa
open Go.RowKit Go.Proofs.YteldbnelfeiifaaW.PrintWords
set_option linter.unusedSimpArgs false
set_option linter.unusedVariables false
set_option maxRecDepth 1000000
attribute [local go_sem high] eqK eqKS
def insL (m : List K2) (r : Nat) (k : K2) : List K2 := m.take r ++ ([k] ++ m.drop r)
def ToP (w : World) (p : Nat) (l : List K2) (k : K2) (r : Nat) (e : Ending) (w' : World) : Prop := if k ∈ l then e = .returned (.int .i64 0) ∧ StkP w p (insL (dropL l k) r k) w' else e = .returned (.int .i64 5) ∧ StkP w p l w'
theorem insL_nodup {m : List K2} {r : Nat} {k : K2} (h : m.Nodup) (hk : k ∉ m) : (m.take r ++ ([k] ++ m.drop r)).Nodup := by
  have h2 := h
  rw [← List.take_append_drop r m, List.nodup_append] at h2
  obtain ⟨h3, h4, h5⟩ := h2
  rw [List.nodup_append]
  refine ⟨h3, ?_, ?_⟩
  · rw [List.singleton_append, List.nodup_cons]
    exact ⟨fun h => hk (List.mem_of_mem_drop h), h4⟩
  · intro a ha b hb e
    rw [List.singleton_append] at hb
    rcases List.mem_cons.1 hb with hb | hb
    · exact hk (by rw [← hb, ← e]; exact List.mem_of_mem_take ha)
    · exact h5 a ha b hb e
theorem dropL_not (l : List K2) (k : K2) : k ∉ dropL l k := by unfold dropL; simp
theorem own_addr {w : World} {base : Nat} {t : TypeId} {A : Option Addr} {n c : Nat} {l : List K2} (h : OwnK w base t (.slice A n c) l) : ∀ ad, A = some ad → ad.block < w.heap.size := by
  rintro ad rfl; exact (World.ownsRow.lt h ad.block rfl).2
theorem Stk.free {w W : World} {p q : Nat} {l : List K2} (h : Stk w p l) (hb : Below w.heap.size w W) (hq : w.heap.size ≤ q) : Free W p q := by
  obtain ⟨A, c, h1, h2, _⟩ := h.open_
  have hlt := h.lt
  refine ⟨by omega, fun v t f hv => ?_⟩
  rw [hb.block p hlt, h1] at hv
  injection hv with hv
  injection hv with hv
  have : v = .slice A l.length c := by simpa using hv.symm
  subst this
  cases A with
  | none => simp [Value.ownBlock]
  | some ad => have := own_addr h2 ad rfl; simp [Value.ownBlock]; omega
end Go.Proofs.Yteldbnelfeiifaa
