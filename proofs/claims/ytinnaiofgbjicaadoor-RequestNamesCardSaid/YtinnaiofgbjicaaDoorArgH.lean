/- The bytes of a list of arguments: the program's and the document's are the same function, by walking both. -/
import Derived.Test.YtinnaiofgbjicaaDoorArgG
namespace Go.Proofs.YtinnaiofgbjicaaDoor
open Go.RowKit Go.Proofs.YtinnaiofgbjicaaDoorW.PrintWords
set_option linter.unusedSimpArgs false
set_option linter.unusedVariables false
set_option maxRecDepth 1000000
def PutYes (w : World) (x : V8) (e : Ending) (w' : World) : Prop := ∃ A n c, e = .returned (.tuple #[.slice A n c, .bool true]) ∧ (n = (putB x).length ∧ n ≤ c) ∧ ReadsInt w' .u8 A n (putB x) ∧ Below w.heap.size w w'
def PutNo (w : World) (e : Ending) (w' : World) : Prop := ∃ A n c, e = .returned (.tuple #[.slice A n c, .bool false]) ∧ Below w.heap.size w w'
theorem PutPost.yes {w w' : World} {k : Int} {x : V8} {e : Ending} (h : PutPost w k x e w') (hk : putOk k x = true) : PutYes w x e w' := by
  obtain ⟨A, n, c, he, hr, hb⟩ := h
  rw [hk] at he
  obtain ⟨h1, h2, h3⟩ := hr hk
  exact ⟨A, n, c, he, ⟨h1, h2⟩, h3, hb⟩
theorem PutPost.not {w w' : World} {k : Int} {x : V8} {e : Ending} (h : PutPost w k x e w') (hk : putOk k x = false) : PutNo w e w' := by
  obtain ⟨A, n, c, he, hr, hb⟩ := h
  rw [hk] at he
  exact ⟨A, n, c, he, hb⟩
def packFrom (f : ByteArray) (l : List V8) : Nat → Option (List Int)
  | 0 => some []
  | k + 1 => match packFrom f l k with
    | none => none
    | some b => if putOk (byN f k) (at8 l k) = true then some (b ++ putB (at8 l k)) else none
theorem putB_len {k : Int} {x : V8} (h : putOk k x = true) : (putB x).length ≤ 4096 := by
  unfold putOk fitI fitS fitR fitB at h
  simp only [decide_eq_true_eq] at h
  unfold putB
  rcases h with ⟨h1, h2⟩ | ⟨h1, rfl, h2⟩ | ⟨h1, rfl, h2, h3, h4, h5⟩ | ⟨h1, rfl, h2⟩
  · rw [if_pos h1]; simp [b4]
  · rw [if_neg (by omega), if_pos h1]; simp [strB, bytesOf_length]; omega
  · rw [if_neg (by omega), if_neg (by omega), if_pos h1]; simp [rectB, b4]
  · rw [if_neg (by omega), if_neg (by omega), if_neg (by omega)]; exact h2
theorem packFrom_len (f : ByteArray) (l : List V8) (k : Nat) : ∀ b, packFrom f l k = some b → b.length ≤ k * 4096 := by
  induction k with
  | zero => intro b h; injection h with h; subst h; simp
  | succ k ih =>
    intro b h
    simp only [packFrom] at h
    cases hp : packFrom f l k with
    | none => rw [hp] at h; cases h
    | some b0 =>
      rw [hp] at h
      simp only at h
      split at h
      · injection h with h; subst h
        have := ih b0 hp
        have := putB_len ‹_›
        rw [List.length_append]; omega
      · cases h
theorem packFrom_yes {f : ByteArray} {l : List V8} {k : Nat} {b : List Int} (h : packFrom f l k = some b) (hp : putOk (byN f k) (at8 l k) = true) : packFrom f l (k + 1) = some (b ++ putB (at8 l k)) := by
  simp only [packFrom, h, hp, if_true]
theorem packFrom_no {f : ByteArray} {l : List V8} {k : Nat} (h : ∃ b, packFrom f l k = some b) (hp : putOk (byN f k) (at8 l k) = false) : packFrom f l (k + 1) = none := by
  obtain ⟨b, h⟩ := h
  simp only [packFrom, h, hp]; simp
theorem packFrom_none {f : ByteArray} {l : List V8} {k : Nat} (h : packFrom f l k = none) : ∀ j, packFrom f l (k + j) = none
  | 0 => h
  | j + 1 => by
    have := packFrom_none h j
    show packFrom f l ((k + j) + 1) = none
    simp only [packFrom, this]
/-- What a list's bytes are, or the error's number. -/
def packP (f : ByteArray) (l : List V8) : Int × List Int :=
  if formP f = true ∧ f.size = l.length then
    match packFrom f l l.length with
    | none => (1, [])
    | some b => if b.length ≤ 4096 then (0, b) else (7, [])
  else (1, [])
def PackPost (w : World) (r : Int × List Int) (e : Ending) (w' : World) : Prop := ∃ A n c, e = .returned (.tuple #[.slice A n c, .int .i64 r.1]) ∧ n = r.2.length ∧ (n ≤ c ∧ (A = none → c = 0) ∧ c ≤ 9223372036854775807) ∧ ReadsInt w' .u8 A n r.2 ∧ Below w.heap.size w w'
theorem own_nilc {w : World} {base n m c : Nat} {e : TypeId} {A : Option Addr} {xs : List Value} (h : w.ownsRow base e 1 (.slice A m c) n xs) : (A = none → c = 0) ∧ c ≤ 9223372036854775807 := by
  rcases h.2 with ⟨he, _⟩ | ⟨g, cap, cur, he, _, _, h1, h2, _⟩
  · injection he with h1 h2 h3
    exact ⟨fun _ => h3, by omega⟩
  · injection he with h3 h4 h5
    exact ⟨fun e => by (rw [h3] at e; cases e), by unfold maxLen at h2; omega⟩
theorem reads_nil (w : World) (A : Option Addr) : ReadsInt w .u8 A 0 [] := ⟨rfl, by omega, fun h => by omega⟩
theorem PackPost.err {w w' : World} {r : Int × List Int} {i : Int} (h : r = (i, [])) (hb : Below w.heap.size w w') : PackPost w r (.returned (.tuple #[.slice none 0 0, .int .i64 i])) w' := by
  subst h; exact ⟨none, 0, 0, rfl, rfl, ⟨Nat.le_refl _, fun _ => rfl, by omega⟩, reads_nil _ _, hb⟩
theorem PackPost.own {w w' : World} {r : Int × List Int} {b : List Int} {v : Value} {base : Nat} (h : r = (0, b)) (ho : w'.ownsRow base 5 1 v b.length (nums .u8 b)) (hb : Below w.heap.size w w') : PackPost w r (.returned (.tuple #[v, .int .i64 0])) w' := by
  subst h
  obtain ⟨A, c, rfl, hr⟩ := own_reads ho
  exact ⟨A, _, c, rfl, rfl, ⟨own_le ho, own_nilc ho⟩, hr, hb⟩
theorem args_Pack (f : ByteArray) (A : Option Addr) (l : List V8) (c : Nat) (w : World) (hc : l.length ≤ c) (hz : f.size ≤ 140737488351232) (hok : AllOk l) (hr : AnyRow w A l) : Calls Tryd.prog 58 #[.string f, .slice A l.length c] w (PackPost w (packP f l)) := by
  have cf := fun w => args_Form f w hz
  cases hf : formP f
  · have hP := Lib.hid (show packP f l = (1, []) from by unfold packP; rw [if_neg (by simp [hf])])
    rw [hf] at cf
    go_enter Tryd.func58, Tryd.ntmps58
    go_wp2_with (first | (go_at_call 65; (with_reducible refine (cf _).mono ?_); rintro e w1 ⟨rfl, hb1⟩; obtain ⟨hc1, hf1⟩ := bcell hb1; have hz1 := hb1.size; (try simp only [World.size_alloc, World.size_setCell, World.size_drew] at hz1)))
    go_ret2
    exact PackPost.err hP.out (by (repeat (first | (with_reducible exact Below.refl _ _) | ((with_reducible refine Below.alloc ?_ ?hB _); (case hB => (first | omega | (simp; done) | (simp; omega)))) | ((with_reducible refine Below.setCell ?_ ?hB _); (case hB => (first | omega | (simp; done) | (simp; omega)))) | (with_reducible refine Below.drew ?_) | ((with_reducible refine below_ext_of ?_ ?hB); (case hB => (first | omega | (simp; done) | (simp; omega)))) | ((with_reducible refine Below.trans ?_ (Below.mono (by assumption) ?hB)); (case hB => (first | omega | (simp; done) | (simp; omega)))))))
  · rw [hf] at cf
    by_cases hs : f.size = l.length
    · have h8 : l.length ≤ 8 := by unfold formP at hf; have := of_decide_eq_true hf; omega
      have hpack : packP f l = (match packFrom f l l.length with | none => (1, []) | some b => if b.length ≤ 4096 then (0, b) else (7, [])) := by unfold packP; rw [if_pos ⟨hf, hs⟩]
      have HP := Lib.hid hpack
      clear hpack
      have hs1 := hs
      go_enter Tryd.func58, Tryd.ntmps58
      go_wp2_with (first | (go_at_call 65; (with_reducible refine (cf _).mono ?_); rintro e w1 ⟨rfl, hb1⟩; obtain ⟨hc1, hf1⟩ := bcell hb1; have hz1 := hb1.size; (try simp only [World.size_alloc, World.size_setCell, World.size_drew] at hz1)))
      obtain ⟨wf, rfl⟩ : ∃ wf, wf = w1 := ⟨_, rfl⟩
      go_loopw [6, 23] (fun v i wr => ∃ (k : Nat) (bl : List Int), k ≤ l.length ∧ i = .int .i64 k ∧ Hid (packFrom f l k = some bl) ∧ wr.ownsRow w.heap.size 5 1 v bl.length (nums .u8 bl) ∧ Below w.heap.size w wr) (fun _ i _ => l.length - (intOf i).toNat)
      case atStart => exact ⟨0, [], by omega, rfl, Lib.hid rfl, own_nilB _ _, by (repeat (first | (with_reducible exact Below.refl _ _) | ((with_reducible refine Below.alloc ?_ ?hB _); (case hB => (first | omega | (simp; done) | (simp; omega)))) | ((with_reducible refine Below.setCell ?_ ?hB _); (case hB => (first | omega | (simp; done) | (simp; omega)))) | (with_reducible refine Below.drew ?_) | ((with_reducible refine below_ext_of ?_ ?hB); (case hB => (first | omega | (simp; done) | (simp; omega)))) | ((with_reducible refine Below.trans ?_ (Below.mono (by assumption) ?hB)); (case hB => (first | omega | (simp; done) | (simp; omega))))))⟩
      case round =>
        obtain ⟨k, bl, hk, rfl, hpf, hown, hbr⟩ := hrel
        clear hb1 hz1 hc1 hf1
        have hlen := packFrom_len f l k bl hpf.out
        have hzr := hbr.size
        by_cases hlt : k < l.length
        · obtain ⟨ad, u, rfl, g0, hu⟩ := hr k hlt
          have g1 := pw_cell_below hbr g0
          have it := fun w => idx_string f k (by omega) w
          have hcp := fun w2 h => args_put (byN f k) (at8 l k) (hok k hlt) u w2 h
          have e : ((f[k]'(by omega)).toNat : Int) = byN f k := byN_at f k (by omega)
          have hu1 := hu.below hbr
          have HU := Lib.hid hu1
          clear g0 hu hu1 hr
          cases hpk : putOk (byN f k) (at8 l k)
          · have hN := Lib.hid (packFrom_none (packFrom_no ⟨bl, hpf.out⟩ hpk) (l.length - (k + 1)))
            have hcn := fun w2 h => (hcp w2 h).mono fun e w' h => PutPost.not h hpk
            have hcn := hcn wr HU.out
            clear hcp
            go_wp2_with (first | (go_at_call 90; (with_reducible refine (hcn).mono ?_); rintro e w3 ⟨A3, n3, c3, rfl, hb3⟩; have hz3 := hb3.size; (try simp only [World.size_alloc, World.size_setCell, World.size_drew] at hz3)))
            go_ret2
            refine PackPost.err ?_ (by (repeat (first | (with_reducible exact Below.refl _ _) | ((with_reducible refine Below.alloc ?_ ?hB _); (case hB => (first | omega | (simp; done) | (simp; omega)))) | ((with_reducible refine Below.setCell ?_ ?hB _); (case hB => (first | omega | (simp; done) | (simp; omega)))) | (with_reducible refine Below.drew ?_) | ((with_reducible refine below_ext_of ?_ ?hB); (case hB => (first | omega | (simp; done) | (simp; omega)))) | ((with_reducible refine Below.trans ?_ (Below.mono (by assumption) ?hB)); (case hB => (first | omega | (simp; done) | (simp; omega)))))))
            rw [HP.out]
            have := hN.out
            rw [show k + 1 + (l.length - (k + 1)) = l.length by omega] at this
            rw [this]
          · have hY := Lib.hid (packFrom_yes hpf.out hpk)
            have hlb := putB_len hpk
            have hcn := fun w2 h => (hcp w2 h).mono fun e w' h => PutPost.yes h hpk
            have hcn := hcn wr HU.out
            clear hcp
            have HQ := Lib.hid hpk
            clear hpk
            go_wp2_with (first | (go_at_call 90; (with_reducible refine (hcn).mono ?_); rintro e w3 ⟨A3, n3, c3, rfl, ⟨rfl, hn3⟩, hr3, hb3⟩; have hz3 := hb3.size; (try simp only [World.size_alloc, World.size_setCell, World.size_drew] at hz3)) | (at_builtin; refine print_append_row (w0 := w) (w.heap.size) rfl _ _ 22 5 .u8 1 rfl Tryd.underlying22 info_u8 (by decide) _ (bl) (putB (at8 l k)) _ _ _ rfl rfl (pw_own_below hown ?_) (ReadsInt.below hr3 ?_) ?_ ?_ ?_ ?_; (focus ((repeat (first | (with_reducible exact Below.refl _ _) | ((with_reducible refine Below.alloc ?_ ?hB _); (case hB => (first | omega | (simp; done) | (simp; omega)))) | ((with_reducible refine Below.setCell ?_ ?hB _); (case hB => (first | omega | (simp; done) | (simp; omega)))) | (with_reducible refine Below.drew ?_) | ((with_reducible refine below_ext_of ?_ ?hB); (case hB => (first | omega | (simp; done) | (simp; omega)))) | ((with_reducible refine Below.trans ?_ (Below.mono (by assumption) ?hB)); (case hB => (first | omega | (simp; done) | (simp; omega)))))); done)); (focus ((repeat (first | (with_reducible exact Below.refl _ _) | ((with_reducible refine Below.alloc ?_ ?hB _); (case hB => (first | omega | (simp; done) | (simp; omega)))) | ((with_reducible refine Below.setCell ?_ ?hB _); (case hB => (first | omega | (simp; done) | (simp; omega)))) | (with_reducible refine Below.drew ?_) | ((with_reducible refine below_ext_of ?_ ?hB); (case hB => (first | omega | (simp; done) | (simp; omega)))) | ((with_reducible refine Below.trans ?_ (Below.mono (by assumption) ?hB)); (case hB => (first | omega | (simp; done) | (simp; omega)))))); done)); (focus ((repeat (first | (with_reducible exact Below.refl _ _) | ((with_reducible refine Below.alloc ?_ ?hB _); (case hB => (first | omega | (simp; done) | (simp; omega)))) | ((with_reducible refine Below.setCell ?_ ?hB _); (case hB => (first | omega | (simp; done) | (simp; omega)))) | (with_reducible refine Below.drew ?_) | ((with_reducible refine below_ext_of ?_ ?hB); (case hB => (first | omega | (simp; done) | (simp; omega)))) | ((with_reducible refine Below.trans ?_ (Below.mono (by assumption) ?hB)); (case hB => (first | omega | (simp; done) | (simp; omega)))))); done)); (focus ((first | omega | (simp; done) | (simp; omega)); done)); (focus ((try simp only [List.length_append, List.length_cons, List.length_nil]); omega)); intro v4 w4 hown4 hb4 _ _; have hz4 := hb4.size; (try simp only [World.size_alloc, World.size_setCell, World.size_drew] at hz4); obtain ⟨hc4, hf4⟩ := bcellB hb4))
            go_roundw
            case rel => exact ⟨k + 1, bl ++ putB (at8 l k), by omega, by go_num, hY, hown4, hb4⟩
            case measure => simp [intOf]; omega
        · obtain rfl : k = l.length := by omega
          obtain ⟨Av, cv, rfl⟩ := own_slice hown
          by_cases hbig : bl.length ≤ 4096
          · have hbig2 : ¬ (bl.length : Int) > 4096 := by omega
            go_wp2_with fail
            go_ret2
            refine PackPost.own ?_ hown (by (repeat (first | (with_reducible exact Below.refl _ _) | ((with_reducible refine Below.alloc ?_ ?hB _); (case hB => (first | omega | (simp; done) | (simp; omega)))) | ((with_reducible refine Below.setCell ?_ ?hB _); (case hB => (first | omega | (simp; done) | (simp; omega)))) | (with_reducible refine Below.drew ?_) | ((with_reducible refine below_ext_of ?_ ?hB); (case hB => (first | omega | (simp; done) | (simp; omega)))) | ((with_reducible refine Below.trans ?_ (Below.mono (by assumption) ?hB)); (case hB => (first | omega | (simp; done) | (simp; omega)))))))
            rw [HP.out, hpf.out]; simp only; rw [if_pos hbig]
          · go_wp2_with fail
            go_ret2
            refine PackPost.err ?_ (by (repeat (first | (with_reducible exact Below.refl _ _) | ((with_reducible refine Below.alloc ?_ ?hB _); (case hB => (first | omega | (simp; done) | (simp; omega)))) | ((with_reducible refine Below.setCell ?_ ?hB _); (case hB => (first | omega | (simp; done) | (simp; omega)))) | (with_reducible refine Below.drew ?_) | ((with_reducible refine below_ext_of ?_ ?hB); (case hB => (first | omega | (simp; done) | (simp; omega)))) | ((with_reducible refine Below.trans ?_ (Below.mono (by assumption) ?hB)); (case hB => (first | omega | (simp; done) | (simp; omega)))))))
            rw [HP.out, hpf.out]; simp only; rw [if_neg hbig]
    · have hP := Lib.hid (show packP f l = (1, []) from by unfold packP; rw [if_neg (by simp [hs])])
      have e1 : ((f.size : Int) != (l.length : Int)) = true := by simp; omega
      go_enter Tryd.func58, Tryd.ntmps58
      go_wp2_with (first | (go_at_call 65; (with_reducible refine (cf _).mono ?_); rintro e w1 ⟨rfl, hb1⟩; obtain ⟨hc1, hf1⟩ := bcell hb1; have hz1 := hb1.size; (try simp only [World.size_alloc, World.size_setCell, World.size_drew] at hz1)))
      go_ret2
      exact PackPost.err hP.out (by (repeat (first | (with_reducible exact Below.refl _ _) | ((with_reducible refine Below.alloc ?_ ?hB _); (case hB => (first | omega | (simp; done) | (simp; omega)))) | ((with_reducible refine Below.setCell ?_ ?hB _); (case hB => (first | omega | (simp; done) | (simp; omega)))) | (with_reducible refine Below.drew ?_) | ((with_reducible refine below_ext_of ?_ ?hB); (case hB => (first | omega | (simp; done) | (simp; omega)))) | ((with_reducible refine Below.trans ?_ (Below.mono (by assumption) ?hB)); (case hB => (first | omega | (simp; done) | (simp; omega)))))))
set_option maxHeartbeats 2000000 in
theorem ref_Pack (f : ByteArray) (A : Option Addr) (l : List V8) (c : Nat) (w : World) (hc : l.length ≤ c) (hz : f.size ≤ 140737488351232) (hok : AllOk l) (hr : VRow w A l) : Calls Tryd.prog 37 #[.string f, .slice A l.length c] w (PackPost w (packP f l)) := by
  have cf := fun w => ref_Form f w hz
  cases hf : formP f
  · have hP := Lib.hid (show packP f l = (1, []) from by unfold packP; rw [if_neg (by simp [hf])])
    rw [hf] at cf
    go_enter Tryd.func37, Tryd.ntmps37
    go_wp2_with (first | (go_at_call 61; (with_reducible refine (cf _).mono ?_); rintro e w1 ⟨rfl, rfl⟩))
    go_ret2
    exact PackPost.err hP.out (by (repeat (first | (with_reducible exact Below.refl _ _) | ((with_reducible refine Below.alloc ?_ ?hB _); (case hB => (first | omega | (simp; done) | (simp; omega)))) | ((with_reducible refine Below.setCell ?_ ?hB _); (case hB => (first | omega | (simp; done) | (simp; omega)))) | (with_reducible refine Below.drew ?_) | ((with_reducible refine below_ext_of ?_ ?hB); (case hB => (first | omega | (simp; done) | (simp; omega)))) | ((with_reducible refine Below.trans ?_ (Below.mono (by assumption) ?hB)); (case hB => (first | omega | (simp; done) | (simp; omega)))))))
  · rw [hf] at cf
    by_cases hs : f.size = l.length
    · have h8 : l.length ≤ 8 := by unfold formP at hf; have := of_decide_eq_true hf; omega
      have hpack : packP f l = (match packFrom f l l.length with | none => (1, []) | some b => if b.length ≤ 4096 then (0, b) else (7, [])) := by unfold packP; rw [if_pos ⟨hf, hs⟩]
      have HP := Lib.hid hpack
      clear hpack
      have hs1 := hs
      go_enter Tryd.func37, Tryd.ntmps37
      go_wp2_with (first | (go_at_call 61; (with_reducible refine (cf _).mono ?_); rintro e w1 ⟨rfl, rfl⟩))
      go_loopw [7, 8] (fun v i wr => ∃ (k : Nat) (bl : List Int), k ≤ l.length ∧ i = .int .i64 k ∧ Hid (packFrom f l k = some bl) ∧ wr.ownsRow w.heap.size 5 1 v bl.length (nums .u8 bl) ∧ Below w.heap.size w wr) (fun _ i _ => l.length - (intOf i).toNat)
      case atStart => exact ⟨0, [], by omega, rfl, Lib.hid rfl, own_nilB _ _, Below.refl _ _⟩
      case round =>
        obtain ⟨k, bl, hk, rfl, hpf, hown, hbr⟩ := hrel
        have hlen := packFrom_len f l k bl hpf.out
        have hzr := hbr.size
        by_cases hlt : k < l.length
        · obtain ⟨ad, Ab, m, rfl, f0, f1, f2, f3, f4, f5, f6, f7, hm, hb⟩ := hr k hlt
          have g0 := pw_cell_below hbr f0; have g1 := pw_cell_below hbr f1; have g2 := pw_cell_below hbr f2; have g3 := pw_cell_below hbr f3
          have g4 := pw_cell_below hbr f4; have g5 := pw_cell_below hbr f5; have g6 := pw_cell_below hbr f6; have g7 := pw_cell_below hbr f7
          clear f0 f1 f2 f3 f4 f5 f6 f7
          have it := fun w => idx_string f k (by omega) w
          have hcp := fun w2 hh => ref_put (byN f k) (at8 l k) (hok k hlt) Ab m w2 hm hh
          have e : ((f[k]'(by omega)).toNat : Int) = byN f k := byN_at f k (by omega)
          have HB := Lib.hid (hb.below hbr)
          clear hb hr
          cases hpk : putOk (byN f k) (at8 l k)
          · have hN := Lib.hid (packFrom_none (packFrom_no ⟨bl, hpf.out⟩ hpk) (l.length - (k + 1)))
            have hcn := fun w2 hh => (hcp w2 hh).mono fun e w' h => PutPost.not h hpk
            clear hcp
            have HQ := Lib.hid hpk
            clear hpk
            go_wp2_with fail
            go_region_with (first | (go_at_call 62; (with_reducible refine (hcn _ ?_).mono ?_); (focus (exact ReadsInt.below HB.out (by (repeat (first | (with_reducible exact Below.refl _ _) | ((with_reducible refine Below.alloc ?_ ?hB _); (case hB => (first | omega | (simp; done) | (simp; omega)))) | ((with_reducible refine Below.setCell ?_ ?hB _); (case hB => (first | omega | (simp; done) | (simp; omega)))) | (with_reducible refine Below.drew ?_) | ((with_reducible refine below_ext_of ?_ ?hB); (case hB => (first | omega | (simp; done) | (simp; omega)))) | ((with_reducible refine Below.trans ?_ (Below.mono (by assumption) ?hB)); (case hB => (first | omega | (simp; done) | (simp; omega))))))))); rintro e w3 ⟨A3, n3, c3, rfl, hb3⟩))
            all_goals
             have hz3 := hb3.size
             (try simp only [World.size_alloc, World.size_setCell, World.size_drew] at hz3)
             go_wp2_with fail
             go_ret2
             refine PackPost.err ?_ (by (repeat (first | (with_reducible exact Below.refl _ _) | ((with_reducible refine Below.alloc ?_ ?hB _); (case hB => (first | omega | (simp; done) | (simp; omega)))) | ((with_reducible refine Below.setCell ?_ ?hB _); (case hB => (first | omega | (simp; done) | (simp; omega)))) | (with_reducible refine Below.drew ?_) | ((with_reducible refine below_ext_of ?_ ?hB); (case hB => (first | omega | (simp; done) | (simp; omega)))) | ((with_reducible refine Below.trans ?_ (Below.mono (by assumption) ?hB)); (case hB => (first | omega | (simp; done) | (simp; omega)))))))
             rw [HP.out]
             have := hN.out
             rw [show k + 1 + (l.length - (k + 1)) = l.length by omega] at this
             rw [this]
          · have hY := Lib.hid (packFrom_yes hpf.out hpk)
            have hlb := putB_len hpk
            have hcn := fun w2 hh => (hcp w2 hh).mono fun e w' h => PutPost.yes h hpk
            clear hcp
            have HQ := Lib.hid hpk
            clear hpk
            go_wp2_with fail
            go_region_with (first | (go_at_call 62; (with_reducible refine (hcn _ ?_).mono ?_); (focus (exact ReadsInt.below HB.out (by (repeat (first | (with_reducible exact Below.refl _ _) | ((with_reducible refine Below.alloc ?_ ?hB _); (case hB => (first | omega | (simp; done) | (simp; omega)))) | ((with_reducible refine Below.setCell ?_ ?hB _); (case hB => (first | omega | (simp; done) | (simp; omega)))) | (with_reducible refine Below.drew ?_) | ((with_reducible refine below_ext_of ?_ ?hB); (case hB => (first | omega | (simp; done) | (simp; omega)))) | ((with_reducible refine Below.trans ?_ (Below.mono (by assumption) ?hB)); (case hB => (first | omega | (simp; done) | (simp; omega))))))))); rintro e w3 ⟨A3, n3, c3, rfl, ⟨rfl, hn3⟩, hr3, hb3⟩))
            all_goals
             have hz3 := hb3.size
             (try simp only [World.size_alloc, World.size_setCell, World.size_drew] at hz3)
             go_wp2_with (first | (at_builtin; refine print_append_row (w0 := w) (w.heap.size) rfl _ _ 22 5 .u8 1 rfl Tryd.underlying22 info_u8 (by decide) _ (bl) (putB (at8 l k)) _ _ _ rfl rfl (pw_own_below hown ?_) (ReadsInt.below hr3 ?_) ?_ ?_ ?_ ?_; (focus ((repeat (first | (with_reducible exact Below.refl _ _) | ((with_reducible refine Below.alloc ?_ ?hB _); (case hB => (first | omega | (simp; done) | (simp; omega)))) | ((with_reducible refine Below.setCell ?_ ?hB _); (case hB => (first | omega | (simp; done) | (simp; omega)))) | (with_reducible refine Below.drew ?_) | ((with_reducible refine below_ext_of ?_ ?hB); (case hB => (first | omega | (simp; done) | (simp; omega)))) | ((with_reducible refine Below.trans ?_ (Below.mono (by assumption) ?hB)); (case hB => (first | omega | (simp; done) | (simp; omega)))))); done)); (focus ((repeat (first | (with_reducible exact Below.refl _ _) | ((with_reducible refine Below.alloc ?_ ?hB _); (case hB => (first | omega | (simp; done) | (simp; omega)))) | ((with_reducible refine Below.setCell ?_ ?hB _); (case hB => (first | omega | (simp; done) | (simp; omega)))) | (with_reducible refine Below.drew ?_) | ((with_reducible refine below_ext_of ?_ ?hB); (case hB => (first | omega | (simp; done) | (simp; omega)))) | ((with_reducible refine Below.trans ?_ (Below.mono (by assumption) ?hB)); (case hB => (first | omega | (simp; done) | (simp; omega)))))); done)); (focus ((repeat (first | (with_reducible exact Below.refl _ _) | ((with_reducible refine Below.alloc ?_ ?hB _); (case hB => (first | omega | (simp; done) | (simp; omega)))) | ((with_reducible refine Below.setCell ?_ ?hB _); (case hB => (first | omega | (simp; done) | (simp; omega)))) | (with_reducible refine Below.drew ?_) | ((with_reducible refine below_ext_of ?_ ?hB); (case hB => (first | omega | (simp; done) | (simp; omega)))) | ((with_reducible refine Below.trans ?_ (Below.mono (by assumption) ?hB)); (case hB => (first | omega | (simp; done) | (simp; omega)))))); done)); (focus ((first | omega | (simp; done) | (simp; omega)); done)); (focus ((try simp only [List.length_append, List.length_cons, List.length_nil]); omega)); intro v4 w4 hown4 hb4 _ _; have hz4 := hb4.size; (try simp only [World.size_alloc, World.size_setCell, World.size_drew] at hz4); obtain ⟨hc4, hf4⟩ := bcellB hb4))
             go_roundw
             case rel => exact ⟨k + 1, bl ++ putB (at8 l k), by omega, by go_num, hY, hown4, hb4⟩
             case measure => simp [intOf]; omega
        · obtain rfl : k = l.length := by omega
          obtain ⟨Av, cv, rfl⟩ := own_slice hown
          by_cases hbig : bl.length ≤ 4096
          · have hbig2 : ¬ (bl.length : Int) > 4096 := by omega
            go_wp2_with fail
            go_ret2
            refine PackPost.own ?_ hown (by (repeat (first | (with_reducible exact Below.refl _ _) | ((with_reducible refine Below.alloc ?_ ?hB _); (case hB => (first | omega | (simp; done) | (simp; omega)))) | ((with_reducible refine Below.setCell ?_ ?hB _); (case hB => (first | omega | (simp; done) | (simp; omega)))) | (with_reducible refine Below.drew ?_) | ((with_reducible refine below_ext_of ?_ ?hB); (case hB => (first | omega | (simp; done) | (simp; omega)))) | ((with_reducible refine Below.trans ?_ (Below.mono (by assumption) ?hB)); (case hB => (first | omega | (simp; done) | (simp; omega)))))))
            rw [HP.out, hpf.out]; simp only; rw [if_pos hbig]
          · go_wp2_with fail
            go_ret2
            refine PackPost.err ?_ (by (repeat (first | (with_reducible exact Below.refl _ _) | ((with_reducible refine Below.alloc ?_ ?hB _); (case hB => (first | omega | (simp; done) | (simp; omega)))) | ((with_reducible refine Below.setCell ?_ ?hB _); (case hB => (first | omega | (simp; done) | (simp; omega)))) | (with_reducible refine Below.drew ?_) | ((with_reducible refine below_ext_of ?_ ?hB); (case hB => (first | omega | (simp; done) | (simp; omega)))) | ((with_reducible refine Below.trans ?_ (Below.mono (by assumption) ?hB)); (case hB => (first | omega | (simp; done) | (simp; omega)))))))
            rw [HP.out, hpf.out]; simp only; rw [if_neg hbig]
    · have hP := Lib.hid (show packP f l = (1, []) from by unfold packP; rw [if_neg (by simp [hs])])
      have e1 : ((f.size : Int) != (l.length : Int)) = true := by simp; omega
      go_enter Tryd.func37, Tryd.ntmps37
      go_wp2_with (first | (go_at_call 61; (with_reducible refine (cf _).mono ?_); rintro e w1 ⟨rfl, rfl⟩))
      go_ret2
      exact PackPost.err hP.out (by (repeat (first | (with_reducible exact Below.refl _ _) | ((with_reducible refine Below.alloc ?_ ?hB _); (case hB => (first | omega | (simp; done) | (simp; omega)))) | ((with_reducible refine Below.setCell ?_ ?hB _); (case hB => (first | omega | (simp; done) | (simp; omega)))) | (with_reducible refine Below.drew ?_) | ((with_reducible refine below_ext_of ?_ ?hB); (case hB => (first | omega | (simp; done) | (simp; omega)))) | ((with_reducible refine Below.trans ?_ (Below.mono (by assumption) ?hB)); (case hB => (first | omega | (simp; done) | (simp; omega)))))))
end Go.Proofs.YtinnaiofgbjicaaDoor
