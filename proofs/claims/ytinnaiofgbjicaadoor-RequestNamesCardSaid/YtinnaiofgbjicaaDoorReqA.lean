/- What is told of all operations of requests, walked. -/
import Derived.Test.YtinnaiofgbjicaaDoorEvH
import Derived.Deep.MidRow
namespace Go.Proofs.YtinnaiofgbjicaaDoor
open Go.RowKit Go.Proofs.YtinnaiofgbjicaaDoorW.PrintWords
set_option linter.unusedSimpArgs false
set_option linter.unusedVariables false
set_option maxRecDepth 1000000
def namesQ : List ByteArray := [{ data := #[98, 117, 102, 102, 101, 114] }, { data := #[117, 110, 98, 117, 102, 102, 101, 114] }, { data := #[119, 114, 105, 116, 101] }, { data := #[115, 117, 114, 102, 97, 99, 101] }, { data := #[117, 110, 115, 117, 114, 102, 97, 99, 101] }, { data := #[97, 116, 116, 97, 99, 104] }, { data := #[100, 97, 109, 97, 103, 101] }, { data := #[109, 111, 118, 101] }, { data := #[114, 97, 105, 115, 101] }, { data := #[108, 111, 119, 101, 114] }, { data := #[115, 99, 97, 108, 101] }, { data := #[99, 108, 105, 112] }, { data := #[111, 112, 97, 113, 117, 101] }, { data := #[102, 97, 100, 101] }, { data := #[116, 105, 116, 108, 101] }, { data := #[102, 114, 97, 109, 101] }, { data := #[99, 111, 109, 109, 105, 116] }, { data := #[99, 117, 114, 115, 111, 114] }, { data := #[112, 111, 105, 110, 116] }]
def formsQ : List ByteArray := [{ data := #[117, 117] }, { data := #[] }, { data := #[114, 98] }, { data := #[] }, { data := #[] }, { data := #[117] }, { data := #[114] }, { data := #[105, 105] }, { data := #[117] }, { data := #[] }, { data := #[117] }, { data := #[114] }, { data := #[114] }, { data := #[117] }, { data := #[115] }, { data := #[117] }, { data := #[] }, { data := #[105, 105] }, { data := #[105, 105] }]
def mayQ : List Nat := [72, 71, 73, 71, 71, 71, 69, 67, 71, 71, 75, 69, 69, 76, 77, 71, 71, 67, 67]
def kindsA : Array Value := #[.string { data := #[98, 117, 102, 102, 101, 114] }, .string { data := #[117, 117] }, .func (.func 72) #[] #[], .string { data := #[117, 110, 98, 117, 102, 102, 101, 114] }, .string { data := #[] }, .func (.func 71) #[] #[], .string { data := #[119, 114, 105, 116, 101] }, .string { data := #[114, 98] }, .func (.func 73) #[] #[], .string { data := #[115, 117, 114, 102, 97, 99, 101] }, .string { data := #[] }, .func (.func 71) #[] #[], .string { data := #[117, 110, 115, 117, 114, 102, 97, 99, 101] }, .string { data := #[] }, .func (.func 71) #[] #[], .string { data := #[97, 116, 116, 97, 99, 104] }, .string { data := #[117] }, .func (.func 71) #[] #[], .string { data := #[100, 97, 109, 97, 103, 101] }, .string { data := #[114] }, .func (.func 69) #[] #[], .string { data := #[109, 111, 118, 101] }, .string { data := #[105, 105] }, .func (.func 67) #[] #[], .string { data := #[114, 97, 105, 115, 101] }, .string { data := #[117] }, .func (.func 71) #[] #[], .string { data := #[108, 111, 119, 101, 114] }, .string { data := #[] }, .func (.func 71) #[] #[], .string { data := #[115, 99, 97, 108, 101] }, .string { data := #[117] }, .func (.func 75) #[] #[], .string { data := #[99, 108, 105, 112] }, .string { data := #[114] }, .func (.func 69) #[] #[], .string { data := #[111, 112, 97, 113, 117, 101] }, .string { data := #[114] }, .func (.func 69) #[] #[], .string { data := #[102, 97, 100, 101] }, .string { data := #[117] }, .func (.func 76) #[] #[], .string { data := #[116, 105, 116, 108, 101] }, .string { data := #[115] }, .func (.func 77) #[] #[], .string { data := #[102, 114, 97, 109, 101] }, .string { data := #[117] }, .func (.func 71) #[] #[], .string { data := #[99, 111, 109, 109, 105, 116] }, .string { data := #[] }, .func (.func 71) #[] #[], .string { data := #[99, 117, 114, 115, 111, 114] }, .string { data := #[105, 105] }, .func (.func 67) #[] #[], .string { data := #[112, 111, 105, 110, 116] }, .string { data := #[105, 105] }, .func (.func 67) #[] #[]]
theorem below_setCells : ∀ (vs : List Value) {B : Nat} {w w' : World} (o b : Nat), Below B w w' → B ≤ b → Below B w (w'.setCells b o vs)
  | [], _, _, _, _, _, h, _ => h
  | v :: r, _, _, _, o, b, h, hb => by
    rw [World.setCells]
    exact below_setCells r (o + 1) b (h.setCell (p := ⟨b, o, none⟩) hb v) hb
theorem there_new (w : World) (cs : Array Value) (t : TypeId) (n : Nat) (hn : n = cs.size) : (w.alloc (.cells cs t)).there w.heap.size 0 n := fun j hj => by
  subst hn
  refine ⟨?_, blk_frozen (blk_new w (.cells cs t)) _⟩
  rw [World.cell?_alloc_new, Nat.zero_add, Array.getElem?_eq_getElem hj]; rfl
set_option maxHeartbeats 4000000 in
theorem req_kinds (w : World) : Calls Tryd.prog 45 #[] w fun e w' => e = .returned (.agg kindsA) ∧ Below w.heap.size w w' := by
  go_enter Tryd.func45, Tryd.ntmps45
  go_wp2_with (first | (refine wpList_store_mid rfl 95 _ _ rfl w.heap.size 0 kindsA rfl rfl ?_ (by kernel_rfl) (by kernel_rfl) ?_; (focus (exact there_new _ _ _ _ (by kernel_rfl)))))
  have hld : ∀ W : World, W.rangeAt w.heap.size 0 kindsA.toList → (loadVar 95 ⟨w.heap.size, 0, none⟩).run Tryd.prog W = .ok (.agg kindsA) W := fun W h => by
    have := run_loadVar_mid (P := Tryd.prog) W w.heap.size 0 95 kindsA.toList _ h Tryd.underlying95 rfl (by kernel_rfl)
    rwa [Array.toArray_toList] at this
  refine bodyPost_ret (v := .agg kindsA) ?_ rfl ⟨rfl, below_setCells _ _ _ ((Below.refl _ _).alloc (Nat.le_refl _) _) (Nat.le_refl _)⟩
  have key : ∀ (W : World) (tmps : Array Value), W.rangeAt w.heap.size 0 kindsA.toList → tmps.getD 0 undef = .pointer (some ⟨w.heap.size, 0, none⟩) → (results Tryd.f45 tmps).run Tryd.prog W = .ok (.agg kindsA) W := fun W tmps h h0 => by
    simp only [results, Tryd.results45]
    have h0' : tmps[0]?.getD undef = .pointer (some ⟨w.heap.size, 0, none⟩) := by simpa using h0
    simp [Sem.run_bind, Result.andThen, asAddr, h0', hld W h]
  exact key _ _ (World.rangeAt_setCells_same _ _ _ _ (there_new _ _ _ _ (by kernel_rfl))) rfl
end Go.Proofs.YtinnaiofgbjicaaDoor
