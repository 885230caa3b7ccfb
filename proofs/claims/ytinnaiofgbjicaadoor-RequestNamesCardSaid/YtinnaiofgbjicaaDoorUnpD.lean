/- What is packed of arguments that fit: a slice of bytes, read. -/
import Derived.Test.YtinnaiofgbjicaaDoorUnpC
import Derived.Test.YtinnaiofgbjicaaDoorArgQ
namespace Go.Proofs.YtinnaiofgbjicaaDoor
open Go.RowKit Go.Proofs.YtinnaiofgbjicaaDoorW.PrintWords
set_option linter.unusedSimpArgs false
set_option linter.unusedVariables false
set_option maxRecDepth 1000000
theorem Byt.append {a b : List Int} (ha : Byt a) (hb : Byt b) : Byt (a ++ b) := fun n hn => (List.mem_append.1 hn).elim (ha n) (hb n)
theorem b4_byt (n : Int) : Byt (b4 n) := b4_bytes n
theorem bytesOf_byt (s : ByteArray) : Byt (bytesOf s) := fun n hn => by
  unfold bytesOf at hn
  obtain ⟨u, _, rfl⟩ := List.mem_map.1 hn
  have := u.toNat_lt; omega
theorem putB_byt {x : V8} (h : Byt x.b) : Byt (putB x) := by
  unfold putB
  split
  · exact b4_byt _
  · split
    · intro n hn
      unfold strB at hn
      rcases List.mem_cons.1 hn with h1 | h1
      · subst h1; omega
      · exact bytesOf_byt _ n h1
    · split
      · unfold rectB; exact (((b4_byt _).append (b4_byt _)).append (b4_byt _)).append (b4_byt _)
      · exact h
theorem goodX_byt {c : Int} {x : V8} (h : Byt x.b) : Byt (goodX c x).b := by
  unfold goodX
  split
  · exact Byt.nil
  · split
    · exact Byt.nil
    · split
      · exact Byt.nil
      · split
        · exact Byt.nil
        · exact h.take _
theorem catB_byt {l : List V8} (h : ∀ i, Byt (at8 l i).b) : ∀ k, Byt (catB l k)
  | 0 => Byt.nil
  | k + 1 => (catB_byt h k).append (putB_byt (h k))
theorem good_byt (g : ByteArray) (l1 : List V8) (h : ∀ i, i < l1.length → Byt (at8 l1 i).b) (k : Nat) : Byt (catB (goodL g l1) k) := by
  refine catB_byt (fun i => ?_) k
  by_cases hi : i < g.size
  · rw [at8_good g l1 i hi]
    refine goodX_byt ?_
    by_cases hl : i < l1.length
    · exact h i hl
    · rw [at8_out _ _ hl]; exact Byt.nil
  · rw [at8_out _ _ (by rw [goodL_len]; exact hi)]; exact Byt.nil
def PackB (w : World) (b : List Int) (e : Ending) (w' : World) : Prop := ∃ A c, e = .returned (.tuple #[.slice A b.length c, .int .i64 0]) ∧ BS w' A b c ∧ Below w.heap.size w w'
theorem args_PackB (f : ByteArray) (A : Option Addr) (l : List V8) (c : Nat) (w : World) (b : List Int) (hy : Byt b) (hb : packP f l = (0, b)) (hc : l.length ≤ c) (hz : f.size ≤ 140737488351232) (hok : AllOk l) (hr : AnyRow w A l) : Calls Tryd.prog 58 #[.string f, .slice A l.length c] w (PackB w b) := by
  refine (args_Pack f A l c w hc hz hok hr).mono fun e w' ⟨A', n, c', he, hn, ⟨h1, h2, h3⟩, hrd, hbel⟩ => ?_
  rw [hb] at he hn hrd
  simp only at hn
  subst hn
  exact ⟨A', c', he, ⟨h1, h2, h3, hrd, hy⟩, hbel⟩
theorem ref_PackB (f : ByteArray) (A : Option Addr) (l : List V8) (c : Nat) (w : World) (b : List Int) (hy : Byt b) (hb : packP f l = (0, b)) (hc : l.length ≤ c) (hz : f.size ≤ 140737488351232) (hok : AllOk l) (hr : VRow w A l) : Calls Tryd.prog 37 #[.string f, .slice A l.length c] w (PackB w b) := by
  refine (ref_Pack f A l c w hc hz hok hr).mono fun e w' ⟨A', n, c', he, hn, ⟨h1, h2, h3⟩, hrd, hbel⟩ => ?_
  rw [hb] at he hn hrd
  simp only at hn
  subst hn
  exact ⟨A', c', he, ⟨h1, h2, h3, hrd, hy⟩, hbel⟩
end Go.Proofs.YtinnaiofgbjicaaDoor
