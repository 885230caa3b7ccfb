/- Arguments: what is told of a value of any type, and the bytes of one argument, walked. -/
import Derived.Test.YtinnaiofgbjicaaDoorArgA
import Derived.Test.YtinnaiofgbjicaaDoorWWords
namespace Go.Proofs.YtinnaiofgbjicaaDoor
open Go.RowKit Go.Proofs.YtinnaiofgbjicaaDoorW.PrintWords
set_option linter.unusedSimpArgs false
set_option linter.unusedVariables false
set_option maxRecDepth 1000000
@[go_sem] theorem ta_ii (v : Value) (w : World) : (Instr.typeAssert (.iface 3 v) 20 3 true).run Tryd.prog w = .ok (.tuple #[v, .bool true]) w := by kernel_rfl
@[go_sem] theorem ta_ss (v : Value) (w : World) : (Instr.typeAssert (.iface 9 v) 20 9 true).run Tryd.prog w = .ok (.tuple #[v, .bool true]) w := by kernel_rfl
@[go_sem] theorem ta_rr (v : Value) (w : World) : (Instr.typeAssert (.iface 26 v) 20 26 true).run Tryd.prog w = .ok (.tuple #[v, .bool true]) w := by kernel_rfl
@[go_sem] theorem ta_bb (v : Value) (w : World) : (Instr.typeAssert (.iface 22 v) 20 22 true).run Tryd.prog w = .ok (.tuple #[v, .bool true]) w := by kernel_rfl
@[go_sem] theorem tx_is (v : Value) (w : World) : (Instr.typeAssert (.iface 3 v) 20 9 true).run Tryd.prog w = .ok (.tuple #[.string ⟨#[]⟩, .bool false]) w := by kernel_rfl
@[go_sem] theorem tx_ir (v : Value) (w : World) : (Instr.typeAssert (.iface 3 v) 20 26 true).run Tryd.prog w = .ok (.tuple #[(.agg #[.int .i64 (0), .int .i64 (0), .int .i64 (0), .int .i64 (0)]), .bool false]) w := by kernel_rfl
@[go_sem] theorem tx_ib (v : Value) (w : World) : (Instr.typeAssert (.iface 3 v) 20 22 true).run Tryd.prog w = .ok (.tuple #[.slice none 0 0, .bool false]) w := by kernel_rfl
@[go_sem] theorem tx_si (v : Value) (w : World) : (Instr.typeAssert (.iface 9 v) 20 3 true).run Tryd.prog w = .ok (.tuple #[.int .i64 0, .bool false]) w := by kernel_rfl
@[go_sem] theorem tx_sr (v : Value) (w : World) : (Instr.typeAssert (.iface 9 v) 20 26 true).run Tryd.prog w = .ok (.tuple #[(.agg #[.int .i64 (0), .int .i64 (0), .int .i64 (0), .int .i64 (0)]), .bool false]) w := by kernel_rfl
@[go_sem] theorem tx_sb (v : Value) (w : World) : (Instr.typeAssert (.iface 9 v) 20 22 true).run Tryd.prog w = .ok (.tuple #[.slice none 0 0, .bool false]) w := by kernel_rfl
@[go_sem] theorem tx_ri (v : Value) (w : World) : (Instr.typeAssert (.iface 26 v) 20 3 true).run Tryd.prog w = .ok (.tuple #[.int .i64 0, .bool false]) w := by kernel_rfl
@[go_sem] theorem tx_rs (v : Value) (w : World) : (Instr.typeAssert (.iface 26 v) 20 9 true).run Tryd.prog w = .ok (.tuple #[.string ⟨#[]⟩, .bool false]) w := by kernel_rfl
@[go_sem] theorem tx_rb (v : Value) (w : World) : (Instr.typeAssert (.iface 26 v) 20 22 true).run Tryd.prog w = .ok (.tuple #[.slice none 0 0, .bool false]) w := by kernel_rfl
@[go_sem] theorem tx_bi (v : Value) (w : World) : (Instr.typeAssert (.iface 22 v) 20 3 true).run Tryd.prog w = .ok (.tuple #[.int .i64 0, .bool false]) w := by kernel_rfl
@[go_sem] theorem tx_bs (v : Value) (w : World) : (Instr.typeAssert (.iface 22 v) 20 9 true).run Tryd.prog w = .ok (.tuple #[.string ⟨#[]⟩, .bool false]) w := by kernel_rfl
@[go_sem] theorem tx_br (v : Value) (w : World) : (Instr.typeAssert (.iface 22 v) 20 26 true).run Tryd.prog w = .ok (.tuple #[(.agg #[.int .i64 (0), .int .i64 (0), .int .i64 (0), .int .i64 (0)]), .bool false]) w := by kernel_rfl
@[go_sem] theorem tx_fi (v : Value) (w : World) : (Instr.typeAssert (.iface 4 v) 20 3 true).run Tryd.prog w = .ok (.tuple #[.int .i64 0, .bool false]) w := by kernel_rfl
@[go_sem] theorem tx_fs (v : Value) (w : World) : (Instr.typeAssert (.iface 4 v) 20 9 true).run Tryd.prog w = .ok (.tuple #[.string ⟨#[]⟩, .bool false]) w := by kernel_rfl
@[go_sem] theorem tx_fr (v : Value) (w : World) : (Instr.typeAssert (.iface 4 v) 20 26 true).run Tryd.prog w = .ok (.tuple #[(.agg #[.int .i64 (0), .int .i64 (0), .int .i64 (0), .int .i64 (0)]), .bool false]) w := by kernel_rfl
@[go_sem] theorem tx_fb (v : Value) (w : World) : (Instr.typeAssert (.iface 4 v) 20 22 true).run Tryd.prog w = .ok (.tuple #[.slice none 0 0, .bool false]) w := by kernel_rfl
theorem bcellB {B : Nat} {W w1 : World} (hb : Below B W w1) : (∀ b o, w1.cell? ⟨b, o, none⟩ = if b < B then W.cell? ⟨b, o, none⟩ else cellOf w1 b o) ∧ (∀ b o, w1.frozen? ⟨b, o, none⟩ = takeB (if b < B then some (W.frozen? ⟨b, o, none⟩) else none) (frozenOf w1 b o)) := by
  refine ⟨fun b o => ?_, fun b o => ?_⟩
  · split
    · exact hb.cell (p := ⟨b, o, none⟩) ‹_›
    · rfl
  · split
    · exact hb.frozen (p := ⟨b, o, none⟩) ‹_›
    · rfl
/-- A number's four bytes. -/
def b4 (n : Int) : List Int := [n / 16777216 % 256, n / 65536 % 256, n / 256 % 256, n % 256]
theorem args_number (n : Int) (w : World) (hn : -9223372036854775808 ≤ n ∧ n ≤ 9223372036854775807) : Calls Tryd.prog 105 #[.int .i64 n] w fun e w' => e = .returned (.slice (some ⟨w.heap.size, 0, none⟩) 4 4) ∧ w.alloc (.cells (nums .u8 (b4 n)).toArray 5) = w' := by
  go_enter Tryd.func105, Tryd.ntmps105
  go_wp2
  go_ret
  exact ⟨rfl, by simp [nums, b4]⟩
theorem ref_digits (n : Int) (w : World) (hn : -2147483648 ≤ n ∧ n < 4294967296) : Calls Tryd.prog 92 #[.int .i64 n] w fun e w' => e = .returned (.slice (some ⟨w.heap.size, 0, none⟩) 4 4) ∧ w.alloc (.cells (nums .u8 (b4 n)).toArray 5) = w' := by
  by_cases h : n < 0
  · go_enter Tryd.func92, Tryd.ntmps92
    go_wp2
    go_ret
    refine ⟨rfl, ?_⟩
    refine congrArg (fun l : List Value => w.alloc (.cells l.toArray 5)) ?_
    simp only [nums, b4, List.map_cons, List.map_nil, List.cons.injEq, Value.int.injEq, true_and, and_true]
    omega
  · go_enter Tryd.func92, Tryd.ntmps92
    go_wp2
    go_ret
    refine ⟨rfl, ?_⟩
    refine congrArg (fun l : List Value => w.alloc (.cells l.toArray 5)) ?_
    simp only [nums, b4, List.map_cons, List.map_nil, List.cons.injEq, Value.int.injEq, true_and, and_true]
    omega
theorem ref_small (n : Int) (w : World) : Calls Tryd.prog 91 #[.int .i64 n] w fun e w' => e = .returned (.bool (decide (-2147483648 ≤ n ∧ n ≤ 2147483647))) ∧ w = w' := by
  go_enter Tryd.func91, Tryd.ntmps91
  go_wp2
  all_goals ((go_ret; refine ⟨?_, rfl⟩); simp; omega)
theorem ret2b {v : Value} {a b : Bool} (h : a = b) : Ending.returned (.tuple #[v, .bool a]) = .returned (.tuple #[v, .bool b]) := by rw [h]
def fitI (c n : Int) : Bool := decide ((c = 105 ∧ -2147483648 ≤ n ∧ n < 2147483648) ∨ (c = 117 ∧ 0 ≤ n ∧ n < 4294967296))
def fitS (c : Int) (s : ByteArray) : Bool := decide (c = 115 ∧ s.size ≤ 255)
def fitB (c : Int) (n : Nat) : Bool := decide (c = 98 ∧ n ≤ 4096)
theorem info_u8 : (Tryd.prog.info? 5).map (fun i => (i.zero, i.size, i.bytes)) = some (some (.int .u8 0), 1, 1) := by kernel_rfl
theorem put_int (c n : Int) (w : World) (hn : -9223372036854775808 ≤ n ∧ n ≤ 9223372036854775807) : Calls Tryd.prog 90 #[.int .u8 c, (.iface 3 (.int .i64 n))] w fun e w' => e = .returned (.tuple #[.slice (some ⟨w.heap.size, 0, none⟩) 4 4, .bool (fitI c n)]) ∧ w.alloc (.cells (nums .u8 (b4 n)).toArray 5) = w' := by
  go_enter Tryd.func90, Tryd.ntmps90
  go_wp2_with (first | (go_at_call 105; (with_reducible refine (args_number _ _ hn).mono ?_); rintro e w1 ⟨rfl, rfl⟩))
  all_goals (go_ret2; exact ⟨ret2b (by (first | rfl | (rw [Bool.eq_iff_iff]; simp [fitI]; done) | (rw [Bool.eq_iff_iff]; simp [fitI]; omega))), rfl⟩)
theorem put_oth (c : Int) (w : World) : Calls Tryd.prog 90 #[.int .u8 c, (.iface 4 (.bool true))] w fun e w' => e = .returned (.tuple #[.slice none 0 0, .bool false]) ∧ w = w' := by
  go_enter Tryd.func90, Tryd.ntmps90
  go_wp2
  go_ret2
  exact ⟨rfl, rfl⟩
theorem put_byt (c : Int) (A : Option Addr) (n cap : Nat) (w : World) : Calls Tryd.prog 90 #[.int .u8 c, (.iface 22 (.slice A n cap))] w fun e w' => e = .returned (.tuple #[.slice A n cap, .bool (fitB c n)]) ∧ w = w' := by
  go_enter Tryd.func90, Tryd.ntmps90
  go_wp2
  all_goals (go_ret2; exact ⟨ret2b (by (first | rfl | (rw [Bool.eq_iff_iff]; simp [fitB]; done) | (rw [Bool.eq_iff_iff]; simp [fitB]; omega))), rfl⟩)
def strB (s : ByteArray) : List Int := ((s.size : Int) % 256) :: bytesOf s
theorem put_str (c : Int) (s : ByteArray) (w : World) (hs : s.size ≤ 140737488351232) : Calls Tryd.prog 90 #[.int .u8 c, (.iface 9 (.string s))] w fun e w' => ∃ v, e = .returned (.tuple #[v, .bool (fitS c s)]) ∧ w'.ownsRow w.heap.size 5 1 v (strB s).length (nums .u8 (strB s)) ∧ Below w.heap.size w w' := by
  have hlit := own_lit w w.heap.size 5 .u8 [(s.size : Int) % 256] (Nat.le_refl _) (by simp)
  have hbl : Below w.heap.size w (w.alloc (.cells (nums .u8 [(s.size : Int) % 256]).toArray 5)) := by (repeat (first | (with_reducible exact Below.refl _ _) | ((with_reducible refine Below.alloc ?_ ?hB _); (case hB => (first | omega | (simp; done) | (simp; omega)))) | ((with_reducible refine Below.setCell ?_ ?hB _); (case hB => (first | omega | (simp; done) | (simp; omega)))) | (with_reducible refine Below.drew ?_) | ((with_reducible refine below_ext_of ?_ ?hB); (case hB => (first | omega | (simp; done) | (simp; omega)))) | ((with_reducible refine Below.trans ?_ (Below.mono (by assumption) ?hB)); (case hB => (first | omega | (simp; done) | (simp; omega))))))
  simp only [nums, List.map_cons, List.map_nil, List.length_cons, List.length_nil] at hlit hbl
  go_enter Tryd.func90, Tryd.ntmps90
  go_wp2_with (first | (at_builtin; refine print_append_str (w0 := w) w.heap.size rfl _ _ 22 9 5 rfl Tryd.underlying22 Tryd.underlying9 info_u8 _ [(s.size : Int) % 256] s rfl rfl hlit hbl ?hbase ?hl ?_; (case hbase => (first | omega | (simp; done) | (simp; omega))); (case hl => simp; omega); intro v2 w2 hown2 hb2 hg2))
  all_goals (go_ret2; exact ⟨v2, ret2b (by (first | rfl | (rw [Bool.eq_iff_iff]; simp [fitS]; done) | (rw [Bool.eq_iff_iff]; simp [fitS]; omega))), hown2, hb2⟩)
end Go.Proofs.YtinnaiofgbjicaaDoor
