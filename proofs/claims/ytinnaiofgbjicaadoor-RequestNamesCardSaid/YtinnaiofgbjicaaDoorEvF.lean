/- The document's events that may be; lists of events of one and the other: walked. -/
import Derived.Test.YtinnaiofgbjicaaDoorEvC
namespace Go.Proofs.YtinnaiofgbjicaaDoor
open Go.RowKit Go.Proofs.YtinnaiofgbjicaaDoorW.PrintWords
set_option linter.unusedSimpArgs false
set_option linter.unusedVariables false
set_option maxRecDepth 1000000
def tmU (n m : Int) : Int := max (Int.tmod n m) (-(Int.tmod n m))
theorem tmod_bd (n m : Int) (h : 0 < m) : -m < Int.tmod n m ∧ Int.tmod n m < m := by
  have h1 := Int.tmod_lt_of_pos n h
  by_cases h0 : 0 ≤ n
  · have := Int.tmod_nonneg m h0; omega
  · have := Int.tmod_nonneg m (show 0 ≤ -n by omega)
    have h3 := Int.tmod_lt_of_pos (-n) h
    rw [Int.neg_tmod] at this h3; omega
theorem tmU_bd (n m : Int) (h : 0 < m) : 0 ≤ tmU n m ∧ tmU n m ≤ m - 1 := by
  have := tmod_bd n m h; unfold tmU; omega
/-- An event that may be, made of any. -/
def goodE (e : E4) : E4 :=
  let k := tmU e.k 6
  let id := tmU e.id 4294967296
  let a := Int.tmod e.a 2147483648
  let b := Int.tmod e.b 2147483648
  if k = 0 then ⟨0, id, 1 + (max a (-a)) % 12, (max b (-b)) % 256⟩
  else if k = 1 then ⟨1, id, 1 + (max a (-a)) % 12, 0⟩
  else if k = 2 then ⟨2, id, 0, 0⟩
  else if k = 3 then ⟨3, id, max a (-a), max b (-b)⟩
  else if k = 4 then ⟨4, id, a, b⟩
  else ⟨5, id, 0, 0⟩
set_option maxHeartbeats 2000000 in
theorem ref_GoodE (e : E4) (w : World) (hbd : e.Bd) : Calls Tryd.prog 23 #[(.agg #[.int .i64 (e).k, .int .i64 (e).id, .int .i64 (e).a, .int .i64 (e).b])] w fun en w' => en = .returned (.agg #[.int .i64 ((goodE e)).k, .int .i64 ((goodE e)).id, .int .i64 ((goodE e)).a, .int .i64 ((goodE e)).b]) ∧ Below w.heap.size w w' := by
  obtain ⟨k, id, a, b⟩ := e
  have hk := tmod_bd k 6 (by omega)
  have hid := tmod_bd id 4294967296 (by omega)
  have ha := tmod_bd a 2147483648 (by omega)
  have hb := tmod_bd b 2147483648 (by omega)
  obtain ⟨k1, k2⟩ := hbd.k; obtain ⟨i1, i2⟩ := hbd.id; obtain ⟨a1, a2⟩ := hbd.a; obtain ⟨b1, b2⟩ := hbd.b
  have HG := Lib.hid (show goodE ⟨k, id, a, b⟩ = goodE ⟨k, id, a, b⟩ from rfl)
  unfold goodE tmU at HG
  simp only at HG
  simp only at k1 k2 i1 i2 a1 a2 b1 b2
  obtain ⟨x, hx⟩ : ∃ x, Int.tmod k 6 = x := ⟨_, rfl⟩
  obtain ⟨y, hy⟩ : ∃ x, Int.tmod id 4294967296 = x := ⟨_, rfl⟩
  obtain ⟨p, hp⟩ : ∃ x, Int.tmod a 2147483648 = x := ⟨_, rfl⟩
  obtain ⟨q, hq⟩ : ∃ x, Int.tmod b 2147483648 = x := ⟨_, rfl⟩
  rw [hx] at hk; rw [hy] at hid; rw [hp] at ha; rw [hq] at hb
  obtain ⟨x1, x2⟩ := hk; obtain ⟨y1, y2⟩ := hid; obtain ⟨p1, p2⟩ := ha; obtain ⟨q1, q2⟩ := hb
  obtain ⟨kk, hkk⟩ : ∃ m, max x (-x) = m := ⟨_, rfl⟩
  have hkb : 0 ≤ kk ∧ kk ≤ 5 := by omega
  have cf := fun w => ref_formE kk w hkb
  have hm : ∀ E : E4, (let k := kk; let id := max y (-y); if k = 0 then (⟨0, id, 1 + (max p (-p)) % 12, (max q (-q)) % 256⟩ : E4) else if k = 1 then ⟨1, id, 1 + (max p (-p)) % 12, 0⟩ else if k = 2 then ⟨2, id, 0, 0⟩ else if k = 3 then ⟨3, id, max p (-p), max q (-q)⟩ else if k = 4 then ⟨4, id, p, q⟩ else ⟨5, id, 0, 0⟩) = E → goodE ⟨k, id, a, b⟩ = E := fun E h => by
    rw [← h]; unfold goodE tmU; simp only [hx, hy, hp, hq, hkk]
  clear HG
  rcases (show kk = 0 ∨ kk = 1 ∨ kk = 2 ∨ kk = 3 ∨ kk = 4 ∨ kk = 5 by omega) with rfl | rfl | rfl | rfl | rfl | rfl
  · have HG := Lib.hid (hm ⟨0, max y (-y), 1 + (max p (-p)) % 12, (max q (-q)) % 256⟩ rfl)
    clear hm
    go_enter Tryd.func23, Tryd.ntmps23
    go_wp2_with (first | (go_at_call 48; (with_reducible refine (cf _).mono ?_); rintro e w1 ⟨rfl, hb1⟩; obtain ⟨hc1, hf1⟩ := bcell hb1; have hz1 := hb1.size; (try simp only [World.size_alloc, World.size_setCell, World.size_drew] at hz1)))
    refine bodyPost_ret (v := (.agg #[.int .i64 ((E4.mk (0) (max y (-y)) (1 + (max p (-p)) % 12) ((max q (-q)) % 256))).k, .int .i64 ((E4.mk (0) (max y (-y)) (1 + (max p (-p)) % 12) ((max q (-q)) % 256))).id, .int .i64 ((E4.mk (0) (max y (-y)) (1 + (max p (-p)) % 12) ((max q (-q)) % 256))).a, .int .i64 ((E4.mk (0) (max y (-y)) (1 + (max p (-p)) % 12) ((max q (-q)) % 256))).b])) (by simp [results, Tryd.results23, go_sem, ↓IntWalk.iteOmega, *]) rfl ⟨by rw [HG.out], by (repeat (first | (with_reducible exact Below.refl _ _) | ((with_reducible refine Below.alloc ?_ ?hB _); (case hB => (first | omega | (simp; done) | (simp; omega)))) | ((with_reducible refine Below.setCell ?_ ?hB _); (case hB => (first | omega | (simp; done) | (simp; omega)))) | (with_reducible refine Below.drew ?_) | ((with_reducible refine below_ext_of ?_ ?hB); (case hB => (first | omega | (simp; done) | (simp; omega)))) | ((with_reducible refine Below.trans ?_ (Below.mono (by assumption) ?hB)); (case hB => (first | omega | (simp; done) | (simp; omega))))))⟩
  · have HG := Lib.hid (hm ⟨1, max y (-y), 1 + (max p (-p)) % 12, 0⟩ rfl)
    clear hm
    go_enter Tryd.func23, Tryd.ntmps23
    go_wp2_with (first | (go_at_call 48; (with_reducible refine (cf _).mono ?_); rintro e w1 ⟨rfl, hb1⟩; obtain ⟨hc1, hf1⟩ := bcell hb1; have hz1 := hb1.size; (try simp only [World.size_alloc, World.size_setCell, World.size_drew] at hz1)))
    refine bodyPost_ret (v := (.agg #[.int .i64 ((E4.mk (1) (max y (-y)) (1 + (max p (-p)) % 12) (0))).k, .int .i64 ((E4.mk (1) (max y (-y)) (1 + (max p (-p)) % 12) (0))).id, .int .i64 ((E4.mk (1) (max y (-y)) (1 + (max p (-p)) % 12) (0))).a, .int .i64 ((E4.mk (1) (max y (-y)) (1 + (max p (-p)) % 12) (0))).b])) (by simp [results, Tryd.results23, go_sem, ↓IntWalk.iteOmega, *]) rfl ⟨by rw [HG.out], by (repeat (first | (with_reducible exact Below.refl _ _) | ((with_reducible refine Below.alloc ?_ ?hB _); (case hB => (first | omega | (simp; done) | (simp; omega)))) | ((with_reducible refine Below.setCell ?_ ?hB _); (case hB => (first | omega | (simp; done) | (simp; omega)))) | (with_reducible refine Below.drew ?_) | ((with_reducible refine below_ext_of ?_ ?hB); (case hB => (first | omega | (simp; done) | (simp; omega)))) | ((with_reducible refine Below.trans ?_ (Below.mono (by assumption) ?hB)); (case hB => (first | omega | (simp; done) | (simp; omega))))))⟩
  · have HG := Lib.hid (hm ⟨2, max y (-y), 0, 0⟩ rfl)
    clear hm
    go_enter Tryd.func23, Tryd.ntmps23
    go_wp2_with (first | (go_at_call 48; (with_reducible refine (cf _).mono ?_); rintro e w1 ⟨rfl, hb1⟩; obtain ⟨hc1, hf1⟩ := bcell hb1; have hz1 := hb1.size; (try simp only [World.size_alloc, World.size_setCell, World.size_drew] at hz1)))
    refine bodyPost_ret (v := (.agg #[.int .i64 ((E4.mk (2) (max y (-y)) (0) (0))).k, .int .i64 ((E4.mk (2) (max y (-y)) (0) (0))).id, .int .i64 ((E4.mk (2) (max y (-y)) (0) (0))).a, .int .i64 ((E4.mk (2) (max y (-y)) (0) (0))).b])) (by simp [results, Tryd.results23, go_sem, ↓IntWalk.iteOmega, *]) rfl ⟨by rw [HG.out], by (repeat (first | (with_reducible exact Below.refl _ _) | ((with_reducible refine Below.alloc ?_ ?hB _); (case hB => (first | omega | (simp; done) | (simp; omega)))) | ((with_reducible refine Below.setCell ?_ ?hB _); (case hB => (first | omega | (simp; done) | (simp; omega)))) | (with_reducible refine Below.drew ?_) | ((with_reducible refine below_ext_of ?_ ?hB); (case hB => (first | omega | (simp; done) | (simp; omega)))) | ((with_reducible refine Below.trans ?_ (Below.mono (by assumption) ?hB)); (case hB => (first | omega | (simp; done) | (simp; omega))))))⟩
  · have HG := Lib.hid (hm ⟨3, max y (-y), max p (-p), max q (-q)⟩ rfl)
    clear hm
    go_enter Tryd.func23, Tryd.ntmps23
    go_wp2_with (first | (go_at_call 48; (with_reducible refine (cf _).mono ?_); rintro e w1 ⟨rfl, hb1⟩; obtain ⟨hc1, hf1⟩ := bcell hb1; have hz1 := hb1.size; (try simp only [World.size_alloc, World.size_setCell, World.size_drew] at hz1)))
    refine bodyPost_ret (v := (.agg #[.int .i64 ((E4.mk (3) (max y (-y)) (max p (-p)) (max q (-q)))).k, .int .i64 ((E4.mk (3) (max y (-y)) (max p (-p)) (max q (-q)))).id, .int .i64 ((E4.mk (3) (max y (-y)) (max p (-p)) (max q (-q)))).a, .int .i64 ((E4.mk (3) (max y (-y)) (max p (-p)) (max q (-q)))).b])) (by simp [results, Tryd.results23, go_sem, ↓IntWalk.iteOmega, *]) rfl ⟨by rw [HG.out], by (repeat (first | (with_reducible exact Below.refl _ _) | ((with_reducible refine Below.alloc ?_ ?hB _); (case hB => (first | omega | (simp; done) | (simp; omega)))) | ((with_reducible refine Below.setCell ?_ ?hB _); (case hB => (first | omega | (simp; done) | (simp; omega)))) | (with_reducible refine Below.drew ?_) | ((with_reducible refine below_ext_of ?_ ?hB); (case hB => (first | omega | (simp; done) | (simp; omega)))) | ((with_reducible refine Below.trans ?_ (Below.mono (by assumption) ?hB)); (case hB => (first | omega | (simp; done) | (simp; omega))))))⟩
  · have HG := Lib.hid (hm ⟨4, max y (-y), p, q⟩ rfl)
    clear hm
    go_enter Tryd.func23, Tryd.ntmps23
    go_wp2_with (first | (go_at_call 48; (with_reducible refine (cf _).mono ?_); rintro e w1 ⟨rfl, hb1⟩; obtain ⟨hc1, hf1⟩ := bcell hb1; have hz1 := hb1.size; (try simp only [World.size_alloc, World.size_setCell, World.size_drew] at hz1)))
    refine bodyPost_ret (v := (.agg #[.int .i64 ((E4.mk (4) (max y (-y)) (p) (q))).k, .int .i64 ((E4.mk (4) (max y (-y)) (p) (q))).id, .int .i64 ((E4.mk (4) (max y (-y)) (p) (q))).a, .int .i64 ((E4.mk (4) (max y (-y)) (p) (q))).b])) (by simp [results, Tryd.results23, go_sem, ↓IntWalk.iteOmega, *]) rfl ⟨by rw [HG.out], by (repeat (first | (with_reducible exact Below.refl _ _) | ((with_reducible refine Below.alloc ?_ ?hB _); (case hB => (first | omega | (simp; done) | (simp; omega)))) | ((with_reducible refine Below.setCell ?_ ?hB _); (case hB => (first | omega | (simp; done) | (simp; omega)))) | (with_reducible refine Below.drew ?_) | ((with_reducible refine below_ext_of ?_ ?hB); (case hB => (first | omega | (simp; done) | (simp; omega)))) | ((with_reducible refine Below.trans ?_ (Below.mono (by assumption) ?hB)); (case hB => (first | omega | (simp; done) | (simp; omega))))))⟩
  · have HG := Lib.hid (hm ⟨5, max y (-y), 0, 0⟩ rfl)
    clear hm
    go_enter Tryd.func23, Tryd.ntmps23
    go_wp2_with (first | (go_at_call 48; (with_reducible refine (cf _).mono ?_); rintro e w1 ⟨rfl, hb1⟩; obtain ⟨hc1, hf1⟩ := bcell hb1; have hz1 := hb1.size; (try simp only [World.size_alloc, World.size_setCell, World.size_drew] at hz1)))
    refine bodyPost_ret (v := (.agg #[.int .i64 ((E4.mk (5) (max y (-y)) (0) (0))).k, .int .i64 ((E4.mk (5) (max y (-y)) (0) (0))).id, .int .i64 ((E4.mk (5) (max y (-y)) (0) (0))).a, .int .i64 ((E4.mk (5) (max y (-y)) (0) (0))).b])) (by simp [results, Tryd.results23, go_sem, ↓IntWalk.iteOmega, *]) rfl ⟨by rw [HG.out], by (repeat (first | (with_reducible exact Below.refl _ _) | ((with_reducible refine Below.alloc ?_ ?hB _); (case hB => (first | omega | (simp; done) | (simp; omega)))) | ((with_reducible refine Below.setCell ?_ ?hB _); (case hB => (first | omega | (simp; done) | (simp; omega)))) | (with_reducible refine Below.drew ?_) | ((with_reducible refine below_ext_of ?_ ?hB); (case hB => (first | omega | (simp; done) | (simp; omega)))) | ((with_reducible refine Below.trans ?_ (Below.mono (by assumption) ?hB)); (case hB => (first | omega | (simp; done) | (simp; omega))))))⟩
end Go.Proofs.YtinnaiofgbjicaaDoor
