/- The law ArgsRound, walked. -/
import Derived.Test.YteldbnelfeiifaaUnpD
namespace Go.Proofs.Yteldbnelfeiifaa
open Go.RowKit Go.Proofs.YteldbnelfeiifaaW.PrintWords
set_option linter.unusedSimpArgs false
set_option linter.unusedVariables false
set_option maxRecDepth 1000000
structure RoundP (g : ByteArray) (l2 : List V8) (b : List Int) (x : Int) : Prop where
  pack : packP g l2 = (0, b)
  unp : unpackP g b = (0, l2)
  more : ((unpackP g (b ++ [x])).1 == 2) = !openP g
  less : openP g = false → ∀ m, m + 1 = b.length → unpackP g (b.take m) = (3, [])
  byt : Byt b
  len : b.length ≤ 1000
  can : ∀ i, i < l2.length → Canon (at8 l2 i) ∧ (at8 l2 i).b.length ≤ 1000000
  ok : AllOk l2
  n : l2.length = g.size
  size : g.size ≤ 8
theorem round_pure (f : ByteArray) (l1 : List V8) (x : Int) (hbd : ∀ i, i < l1.length → (at8 l1 i).Bd ∧ (at8 l1 i).s.size ≤ 300 ∧ (at8 l1 i).b.length ≤ 300) : RoundP (lettersP f) (goodL (lettersP f) l1) (catB (goodL (lettersP f) l1) (lettersP f).size) x := by
  have hf := letters_form f
  have h8 := lettersP_size f
  have hput : ∀ i, i < (lettersP f).size → (putB (at8 (goodL (lettersP f) l1) i)).length ≤ 21 := fun i hi => by
    rw [at8_good _ _ i hi]; exact (goodX_put _ _ (letters_let f i hi)).2
  have hlen := catB_len (goodL (lettersP f) l1) (lettersP f).size 21 hput
  refine ⟨pack_good f l1, round_ok _ _ hf, round_more _ _ x hf, fun ho m hm => round_less _ _ hf ho m hm, good_byt _ _ (fun i hi => (hbd i hi).1.y) _, ?_, fun i hi => ?_, good_allok hbd, goodL_len _ _, h8⟩
  · have : (lettersP f).size * 21 ≤ 8 * 21 := Nat.mul_le_mul_right _ h8
    omega
  · rw [goodL_len] at hi
    rw [at8_good _ _ i hi]
    refine ⟨goodX_canon _ _, ?_⟩
    have := (good_allok hbd i (by rw [goodL_len]; exact hi)).b
    by_cases hl : i < l1.length
    · have h3 := (hbd i hl).2.2
      unfold goodX
      split
      · simp [v0]
      · split
        · simp [v0]
        · split
          · simp [v0]
          · split
            · simp [v0]
            · simp; omega
    · rw [at8_out _ _ hl]
      unfold goodX
      split
      · simp [v0]
      · split
        · simp [v0]
        · split
          · simp [v0]
          · split
            · simp [v0]
            · simp [v0]
theorem BS.own {w : World} {base : Nat} {v : Value} {b : List Int} (h : w.ownsRow base 5 1 v b.length (nums .u8 b)) (hy : Byt b) : ∃ A c, v = .slice A b.length c ∧ BS w A b c := by
  obtain ⟨A, c, rfl, hr⟩ := own_reads h
  exact ⟨A, c, rfl, own_le h, (own_nilc h).1, (own_nilc h).2, hr, hy⟩
theorem last_is (g : ByteArray) (h : 0 < g.size) : ((g.extract (max ((g.size : Int) - 1) 0).toNat g.size).toList == [98]) = openP g := by
  have e1 : (max ((g.size : Int) - 1) 0).toNat = g.size - 1 := by omega
  have hd : (g.extract (g.size - 1) g.size).data = #[g[g.size - 1]'(by omega)] := by
    rw [ByteArray.data_extract]
    apply Array.ext
    · rw [Array.size_extract]; show min g.size g.size - (g.size - 1) = 1; omega
    · intro i h1 h2
      have : i = 0 := by simp at h2; omega
      subst this
      rw [Array.getElem_extract]; rfl
  have hb := byN_at g (g.size - 1) (by omega)
  have hq : (g.extract (g.size - 1) g.size = { data := #[98] }) ↔ openP g = true := by
    unfold openP
    rw [decide_eq_true_iff, ← hb]
    constructor
    · intro e
      have := congrArg ByteArray.data e
      rw [hd] at this
      have h3 : g[g.size - 1]'(by omega) = 98 := by simpa using this
      exact ⟨h, by rw [h3]; rfl⟩
    · rintro ⟨_, e⟩
      apply ByteArray.ext
      rw [hd]
      have h3 : g[g.size - 1]'(by omega) = 98 := by
        apply UInt8.toNat_inj.1
        have : (g[g.size - 1]'(by omega)).toNat = 98 := by omega
        rw [this]; rfl
      rw [h3]
  rw [e1]
  have := str_beq (g.extract (g.size - 1) g.size) { data := #[98] } (openP g) (by rw [Bool.eq_iff_iff, decide_eq_true_iff]; exact hq)
  rw [show ({ data := #[98] } : ByteArray).toList = [98] from by rw [ByteArray.toList_eq]] at this
  exact this
set_option maxHeartbeats 4000000 in
theorem walk_ArgsRound (f : ByteArray) (A : Option Addr) (l : List V8) (c : Nat) (x : Int) (w : World) (hf : f.size ≤ 9223372036854775807) (hc : l.length ≤ c) (hz : l.length ≤ 9223372036854775807) (hr : VRow w A l) (hok : ∀ i, i < l.length → (at8 l i).Bd) (hx : 0 ≤ x ∧ x ≤ 255) :
    Calls Try.prog 12 #[.string f, .slice A l.length c, .int .u8 x] w fun e w' => e = .returned (.bool true) ∧ Below w.heap.size w w' := by
  have hbd := Lib.hid (few_bd hok)
  have hl10 : (fewL l).length ≤ 1000000 := by rw [fewL_len]; omega
  have hg8 : (lettersP f).size ≤ 1000000 := by have := lettersP_size f; omega
  have cL := fun w => ref_Letters f w hf
  go_enter Try.func12, Try.ntmps12
  go_wp2_with (first | (go_at_call 15; (with_reducible refine (cL _).mono ?_); rintro e w1 ⟨rfl, rfl⟩) | (go_at_call 14; (with_reducible refine (law_fewP _ _ _ _ hc hz hr hok).mono ?_); rintro e w1 ⟨A1, c1, rfl, hf1, hb1⟩; have hz1 := hb1.size; replace hf1 := Lib.hid hf1) | (go_at_call 16; (with_reducible refine (ref_GoodP _ _ _ _ _ hg8 hf1.out.1 hl10 hf1.out.2 hbd.out).mono ?_); rintro e w2 ⟨A2, c2, rfl, hf2, hb2⟩; have hz2 := hb2.size; replace hf2 := Lib.hid hf2))
  have HP := Lib.hid (round_pure f (fewL l) x hbd.out)
  obtain ⟨g, hg⟩ : ∃ g, lettersP f = g := ⟨_, rfl⟩
  rw [hg] at HP hf2 ⊢
  obtain ⟨l2, hl2⟩ : ∃ l2, goodL g (fewL l) = l2 := ⟨_, rfl⟩
  rw [hl2] at HP hf2 ⊢
  obtain ⟨b, hb⟩ : ∃ b, catB l2 g.size = b := ⟨_, rfl⟩
  rw [hb] at HP
  have h8 := HP.out.size
  have hn2 : l2.length ≤ 8 := by have := HP.out.n; omega
  have hbl := HP.out.len
  clear hg hl2 hb hok hr hl10 hg8 cL
  have cU := fun w A c (hs : BS w A b c) => args_Unpack g A b c w (by omega) hs.byt (by omega) hs.le hs.nil hs.rd
  unfold UnpP at cU
  rw [HP.out.unp] at cU
  simp only at cU
  go_wp2_with (first | (go_at_call 18; (with_reducible refine (law_allP _ _ _ _ hf2.out.1 (by omega) hf2.out.2).mono ?_); rintro e w3 ⟨A3, c3, rfl, hf3, hb3⟩; have hz3 := hb3.size; replace hf3 := Lib.hid hf3) | (go_at_call 17; (with_reducible refine (args_PackB _ _ _ _ _ _ HP.out.byt HP.out.pack hf3.out.1 (by omega) HP.out.ok hf3.out.2).mono ?_); rintro e w4 ⟨A4, c4, rfl, hs4, hb4⟩; have hz4 := hb4.size; have hle4 := hs4.le; replace hs4 := Lib.hid hs4) | (go_at_call 50; (with_reducible refine (cU _ _ _ hs4.out).mono ?_); rintro e w5 ⟨A5, c5, rfl, hc5, ha5, hb5⟩; have hz5 := hb5.size; replace ha5 := Lib.hid ha5; clear cU))
  have HB5 := Lib.hid (show Below w.heap.size w w5 from by (repeat (first | (with_reducible exact Below.refl _ _) | ((with_reducible refine Below.alloc ?_ ?hB _); (case hB => (first | omega | (simp; done) | (simp; omega)))) | ((with_reducible refine Below.setCell ?_ ?hB _); (case hB => (first | omega | (simp; done) | (simp; omega)))) | (with_reducible refine Below.drew ?_) | ((with_reducible refine below_ext_of ?_ ?hB); (case hB => (first | omega | (simp; done) | (simp; omega)))) | ((with_reducible refine Below.trans ?_ (Below.mono (by assumption) ?hB)); (case hB => (first | omega | (simp; done) | (simp; omega)))))))
  have hr5 : l2.length ≤ c2 ∧ VRow w5 A2 l2 := ⟨hf2.out.1, hf2.out.2.below (by (repeat (first | (with_reducible exact Below.refl _ _) | ((with_reducible refine Below.alloc ?_ ?hB _); (case hB => (first | omega | (simp; done) | (simp; omega)))) | ((with_reducible refine Below.setCell ?_ ?hB _); (case hB => (first | omega | (simp; done) | (simp; omega)))) | (with_reducible refine Below.drew ?_) | ((with_reducible refine below_ext_of ?_ ?hB); (case hB => (first | omega | (simp; done) | (simp; omega)))) | ((with_reducible refine Below.trans ?_ (Below.mono (by assumption) ?hB)); (case hB => (first | omega | (simp; done) | (simp; omega)))))))⟩
  have hs5 : BS w5 A4 b c4 := hs4.out.below hb5
  have HR5 := Lib.hid hr5
  have HS5 := Lib.hid hs5
  have hzz : w.heap.size ≤ w5.heap.size := by omega
  clear hr5 hs5 hf2 hf1 hf3 hs4 hb1 hb2 hb3 hb4 hb5 hz1 hz2 hz3 hz4 hz5
  have HCN := Lib.hid HP.out.can
  go_loopw [13] (fun i wr => ∃ j : Nat, j ≤ l2.length ∧ i = .int .i64 j ∧ Below w5.heap.size w5 wr) (fun i _ => l2.length - (intOf i).toNat)
  case atStart => exact ⟨0, by omega, rfl, Below.refl _ _⟩
  case round =>
    obtain ⟨j, hj, rfl, hbq⟩ := hrel
    have hzq := hbq.size
    by_cases hjl : j < l2.length
    · have hcb := HCN.out j hjl
      obtain ⟨hca, hbL⟩ := hcb
      obtain ⟨ad, u, eA, hu, hau⟩ := ha5.out j hjl
      subst eA
      obtain ⟨ad4, Ab, m, eA, f0, f1, f2_, f3, f4, f5, f6, f7, hm, hrb⟩ := HR5.out.2 j hjl
      subst eA
      have p0 := fun x => pw_cell_below (below_ext wr x) (pw_cell_below hbq hu)
      have q0 := fun x => pw_cell_below (below_ext wr x) (pw_cell_below hbq f0); have q1 := fun x => pw_cell_below (below_ext wr x) (pw_cell_below hbq f1); have q2 := fun x => pw_cell_below (below_ext wr x) (pw_cell_below hbq f2_); have q3 := fun x => pw_cell_below (below_ext wr x) (pw_cell_below hbq f3)
      have q4 := fun x => pw_cell_below (below_ext wr x) (pw_cell_below hbq f4); have q5 := fun x => pw_cell_below (below_ext wr x) (pw_cell_below hbq f5); have q6 := fun x => pw_cell_below (below_ext wr x) (pw_cell_below hbq f6); have q7 := fun x => pw_cell_below (below_ext wr x) (pw_cell_below hbq f7)
      have cl := fun x => law_like (at8 l2 j) u Ab m (ext wr x) hca hbL ((hau.below hbq).below (below_ext wr x)) ((hrb.below hbq).below (below_ext wr x))
      clear hca hu hau f0 f1 f2_ f3 f4 f5 f6 f7 hrb
      generalize at8 l2 j = y at *
      go_wp2_with fail
      (refine wp_region_ext_lit (by kernel_rfl) (by kernel_rfl) ?_; (repeat (go_big_quiet_step (((go_at_call 52; with_reducible exact ext_call (cl _)))))); refine wpQuiet_nil ?_; intro w6 hb_w6; obtain ⟨hc_w6, hf_w6⟩ := bcell hb_w6; have hz_w6 := hb_w6.size; (try simp only [World.size_alloc, World.size_setCell, World.size_drew] at hz_w6))
      clear p0 q0 q1 q2 q3 q4 q5 q6 q7 cl
      go_wp2
      go_roundw
      case rel => exact ⟨j + 1, by omega, by go_num, hbq.trans (hb_w6.mono hzq)⟩
      case measure => simp [intOf]; omega
    · obtain rfl : j = l2.length := by omega
      have hs6 := HS5.out.below hbq
      have hbw : Below w.heap.size w wr := HB5.out.trans (hbq.mono hzz)
      have HS6 := Lib.hid hs6
      have HBW := Lib.hid hbw
      have hzw : w.heap.size ≤ wr.heap.size := by omega
      clear hs6 hbw hbq hzq hzz HS5 HB5 ha5 HR5 HCN
      have hyx : Byt (b ++ [x]) := HP.out.byt.append (fun n hn => by rw [List.mem_singleton.1 hn]; exact hx)
      have cM : ∀ w v, w.ownsRow wr.heap.size 5 1 v (b ++ [x]).length (nums .u8 (b ++ [x])) → Calls Try.prog 50 #[.string g, v] w fun e w' => ∃ A c n, e = .returned (.tuple #[.slice A n c, .int .i64 (unpackP g (b ++ [x])).1]) ∧ Below w.heap.size w w' := fun w v ho => by
        obtain ⟨A, c, rfl, hs⟩ := BS.own ho hyx
        refine (args_Unpack g A (b ++ [x]) c w (by omega) hs.byt (by simp; omega) hs.le hs.nil hs.rd).mono ?_
        rintro e w' ⟨A', c', he, _, _, hb⟩
        exact ⟨A', c', _, he, hb⟩
      have cT : ∀ w (m : Nat), m ≤ b.length → BS w A4 b c4 → Calls Try.prog 50 #[.string g, .slice A4 m c4] w fun e w' => ∃ A c n, e = .returned (.tuple #[.slice A n c, .int .i64 (unpackP g (b.take m)).1]) ∧ Below w.heap.size w w' := fun w m hm hs => by
        have hs := hs.take m hm
        have hl : (b.take m).length = m := by simp; omega
        have := args_Unpack g A4 (b.take m) c4 w (by omega) hs.byt (by omega) hs.le hs.nil hs.rd
        rw [hl] at this
        refine this.mono ?_
        rintro e w' ⟨A', c', he, _, _, hb⟩
        exact ⟨A', c', _, he, hb⟩
      have hmore := HP.out.more
      have hless := HP.out.less
      obtain ⟨mc, hmc⟩ : ∃ mc, (unpackP g (b ++ [x])).1 = mc := ⟨_, rfl⟩
      rw [hmc] at cM hmore
      clear hmc hyx
      by_cases hb0 : b.length = 0
      · have hb1 : ¬ 0 < b.length := by omega
        have hb2 : b.length ≤ 0 := by omega
        clear cT hless hb0
        by_cases hg0 : 0 < g.size
        · have hlast := last_is g hg0
          cases ho : openP g
          · rw [ho] at hlast hmore
            simp only [Bool.not_false, Bool.not_true] at hmore
            go_wp2_with (first | ((at_builtin; refine print_append_row (w0 := wr) (wr.heap.size) rfl _ _ 28 5 .u8 1 rfl Try.underlying28 info_u8 (by decide) _ ([]) (b) _ _ _ rfl rfl (pw_own_below (own_nilB wr wr.heap.size) ?_) (ReadsInt.below HS6.out.rd ?_) ?_ ?_ ?_ ?_; (focus ((repeat (first | (with_reducible exact Below.refl _ _) | ((with_reducible refine Below.alloc ?_ ?hB _); (case hB => (first | omega | (simp; done) | (simp; omega)))) | ((with_reducible refine Below.setCell ?_ ?hB _); (case hB => (first | omega | (simp; done) | (simp; omega)))) | (with_reducible refine Below.drew ?_) | ((with_reducible refine below_ext_of ?_ ?hB); (case hB => (first | omega | (simp; done) | (simp; omega)))) | ((with_reducible refine Below.trans ?_ (Below.mono (by assumption) ?hB)); (case hB => (first | omega | (simp; done) | (simp; omega)))))); done)); (focus ((repeat (first | (with_reducible exact Below.refl _ _) | ((with_reducible refine Below.alloc ?_ ?hB _); (case hB => (first | omega | (simp; done) | (simp; omega)))) | ((with_reducible refine Below.setCell ?_ ?hB _); (case hB => (first | omega | (simp; done) | (simp; omega)))) | (with_reducible refine Below.drew ?_) | ((with_reducible refine below_ext_of ?_ ?hB); (case hB => (first | omega | (simp; done) | (simp; omega)))) | ((with_reducible refine Below.trans ?_ (Below.mono (by assumption) ?hB)); (case hB => (first | omega | (simp; done) | (simp; omega)))))); done)); (focus ((repeat (first | (with_reducible exact Below.refl _ _) | ((with_reducible refine Below.alloc ?_ ?hB _); (case hB => (first | omega | (simp; done) | (simp; omega)))) | ((with_reducible refine Below.setCell ?_ ?hB _); (case hB => (first | omega | (simp; done) | (simp; omega)))) | (with_reducible refine Below.drew ?_) | ((with_reducible refine below_ext_of ?_ ?hB); (case hB => (first | omega | (simp; done) | (simp; omega)))) | ((with_reducible refine Below.trans ?_ (Below.mono (by assumption) ?hB)); (case hB => (first | omega | (simp; done) | (simp; omega)))))); done)); (focus ((first | omega | (simp; done) | (simp; omega)); done)); (focus ((try simp only [List.length_append, List.length_cons, List.length_nil]); omega)); intro v7 w7 hown7 hb7 _ _; have hz7 := hb7.size; (try simp only [World.size_alloc, World.size_setCell, World.size_drew] at hz7); obtain ⟨hc7, hf7⟩ := bcellB hb7); simp only [List.nil_append] at hown7) | (at_builtin; refine append_lit (w0 := wr) (wr.heap.size) rfl rfl _ (b) ([x]) rfl ?_ (pw_own_below hown7 ?_) ?_ ?_ ?_ ?_; (focus (first | (go_simp; done) | (go_simp; rfl))); (focus ((repeat (first | (with_reducible exact Below.refl _ _) | ((with_reducible refine Below.alloc ?_ ?hB _); (case hB => (first | omega | (simp; done) | (simp; omega)))) | ((with_reducible refine Below.setCell ?_ ?hB _); (case hB => (first | omega | (simp; done) | (simp; omega)))) | (with_reducible refine Below.drew ?_) | ((with_reducible refine below_ext_of ?_ ?hB); (case hB => (first | omega | (simp; done) | (simp; omega)))) | ((with_reducible refine Below.trans ?_ (Below.mono (by assumption) ?hB)); (case hB => (first | omega | (simp; done) | (simp; omega)))))); done)); (focus ((repeat (first | (with_reducible exact Below.refl _ _) | ((with_reducible refine Below.alloc ?_ ?hB _); (case hB => (first | omega | (simp; done) | (simp; omega)))) | ((with_reducible refine Below.setCell ?_ ?hB _); (case hB => (first | omega | (simp; done) | (simp; omega)))) | (with_reducible refine Below.drew ?_) | ((with_reducible refine below_ext_of ?_ ?hB); (case hB => (first | omega | (simp; done) | (simp; omega)))) | ((with_reducible refine Below.trans ?_ (Below.mono (by assumption) ?hB)); (case hB => (first | omega | (simp; done) | (simp; omega)))))); done)); (focus ((first | omega | (simp; done) | (simp; omega)); done)); (focus ((simp only [List.length_append, List.length_cons, List.length_nil, b4]); omega)); intro v8 w8 hown8 hb8; have hz8 := hb8.size; (try simp only [World.size_alloc, World.size_setCell, World.size_drew] at hz8); obtain ⟨hc8, hf8⟩ := bcellB hb8) | (go_at_call 50; (with_reducible refine (cM _ _ hown8).mono ?_); rintro e w9 ⟨A9, c9, n9, rfl, hb9⟩; have hz9 := hb9.size; clear cM) | (go_at_call 22; (with_reducible refine (args_lives _).mono ?_); rintro e w1 ⟨rfl, hb1⟩; obtain ⟨hc1, hf1⟩ := bcell hb1; have hz1 := hb1.size; (try simp only [World.size_alloc, World.size_setCell, World.size_drew] at hz1)))
            go_ret
            exact ⟨rfl, HBW.out.trans (Below.mono (by (repeat (first | (with_reducible exact Below.refl _ _) | ((with_reducible refine Below.alloc ?_ ?hB _); (case hB => (first | omega | (simp; done) | (simp; omega)))) | ((with_reducible refine Below.setCell ?_ ?hB _); (case hB => (first | omega | (simp; done) | (simp; omega)))) | (with_reducible refine Below.drew ?_) | ((with_reducible refine below_ext_of ?_ ?hB); (case hB => (first | omega | (simp; done) | (simp; omega)))) | ((with_reducible refine Below.trans ?_ (Below.mono (by assumption) ?hB)); (case hB => (first | omega | (simp; done) | (simp; omega))))))) hzw)⟩
          · rw [ho] at hlast hmore
            simp only [Bool.not_false, Bool.not_true] at hmore
            go_wp2_with (first | ((at_builtin; refine print_append_row (w0 := wr) (wr.heap.size) rfl _ _ 28 5 .u8 1 rfl Try.underlying28 info_u8 (by decide) _ ([]) (b) _ _ _ rfl rfl (pw_own_below (own_nilB wr wr.heap.size) ?_) (ReadsInt.below HS6.out.rd ?_) ?_ ?_ ?_ ?_; (focus ((repeat (first | (with_reducible exact Below.refl _ _) | ((with_reducible refine Below.alloc ?_ ?hB _); (case hB => (first | omega | (simp; done) | (simp; omega)))) | ((with_reducible refine Below.setCell ?_ ?hB _); (case hB => (first | omega | (simp; done) | (simp; omega)))) | (with_reducible refine Below.drew ?_) | ((with_reducible refine below_ext_of ?_ ?hB); (case hB => (first | omega | (simp; done) | (simp; omega)))) | ((with_reducible refine Below.trans ?_ (Below.mono (by assumption) ?hB)); (case hB => (first | omega | (simp; done) | (simp; omega)))))); done)); (focus ((repeat (first | (with_reducible exact Below.refl _ _) | ((with_reducible refine Below.alloc ?_ ?hB _); (case hB => (first | omega | (simp; done) | (simp; omega)))) | ((with_reducible refine Below.setCell ?_ ?hB _); (case hB => (first | omega | (simp; done) | (simp; omega)))) | (with_reducible refine Below.drew ?_) | ((with_reducible refine below_ext_of ?_ ?hB); (case hB => (first | omega | (simp; done) | (simp; omega)))) | ((with_reducible refine Below.trans ?_ (Below.mono (by assumption) ?hB)); (case hB => (first | omega | (simp; done) | (simp; omega)))))); done)); (focus ((repeat (first | (with_reducible exact Below.refl _ _) | ((with_reducible refine Below.alloc ?_ ?hB _); (case hB => (first | omega | (simp; done) | (simp; omega)))) | ((with_reducible refine Below.setCell ?_ ?hB _); (case hB => (first | omega | (simp; done) | (simp; omega)))) | (with_reducible refine Below.drew ?_) | ((with_reducible refine below_ext_of ?_ ?hB); (case hB => (first | omega | (simp; done) | (simp; omega)))) | ((with_reducible refine Below.trans ?_ (Below.mono (by assumption) ?hB)); (case hB => (first | omega | (simp; done) | (simp; omega)))))); done)); (focus ((first | omega | (simp; done) | (simp; omega)); done)); (focus ((try simp only [List.length_append, List.length_cons, List.length_nil]); omega)); intro v7 w7 hown7 hb7 _ _; have hz7 := hb7.size; (try simp only [World.size_alloc, World.size_setCell, World.size_drew] at hz7); obtain ⟨hc7, hf7⟩ := bcellB hb7); simp only [List.nil_append] at hown7) | (at_builtin; refine append_lit (w0 := wr) (wr.heap.size) rfl rfl _ (b) ([x]) rfl ?_ (pw_own_below hown7 ?_) ?_ ?_ ?_ ?_; (focus (first | (go_simp; done) | (go_simp; rfl))); (focus ((repeat (first | (with_reducible exact Below.refl _ _) | ((with_reducible refine Below.alloc ?_ ?hB _); (case hB => (first | omega | (simp; done) | (simp; omega)))) | ((with_reducible refine Below.setCell ?_ ?hB _); (case hB => (first | omega | (simp; done) | (simp; omega)))) | (with_reducible refine Below.drew ?_) | ((with_reducible refine below_ext_of ?_ ?hB); (case hB => (first | omega | (simp; done) | (simp; omega)))) | ((with_reducible refine Below.trans ?_ (Below.mono (by assumption) ?hB)); (case hB => (first | omega | (simp; done) | (simp; omega)))))); done)); (focus ((repeat (first | (with_reducible exact Below.refl _ _) | ((with_reducible refine Below.alloc ?_ ?hB _); (case hB => (first | omega | (simp; done) | (simp; omega)))) | ((with_reducible refine Below.setCell ?_ ?hB _); (case hB => (first | omega | (simp; done) | (simp; omega)))) | (with_reducible refine Below.drew ?_) | ((with_reducible refine below_ext_of ?_ ?hB); (case hB => (first | omega | (simp; done) | (simp; omega)))) | ((with_reducible refine Below.trans ?_ (Below.mono (by assumption) ?hB)); (case hB => (first | omega | (simp; done) | (simp; omega)))))); done)); (focus ((first | omega | (simp; done) | (simp; omega)); done)); (focus ((simp only [List.length_append, List.length_cons, List.length_nil, b4]); omega)); intro v8 w8 hown8 hb8; have hz8 := hb8.size; (try simp only [World.size_alloc, World.size_setCell, World.size_drew] at hz8); obtain ⟨hc8, hf8⟩ := bcellB hb8) | (go_at_call 50; (with_reducible refine (cM _ _ hown8).mono ?_); rintro e w9 ⟨A9, c9, n9, rfl, hb9⟩; have hz9 := hb9.size; clear cM) | (go_at_call 22; (with_reducible refine (args_lives _).mono ?_); rintro e w1 ⟨rfl, hb1⟩; obtain ⟨hc1, hf1⟩ := bcell hb1; have hz1 := hb1.size; (try simp only [World.size_alloc, World.size_setCell, World.size_drew] at hz1)))
            go_ret
            exact ⟨rfl, HBW.out.trans (Below.mono (by (repeat (first | (with_reducible exact Below.refl _ _) | ((with_reducible refine Below.alloc ?_ ?hB _); (case hB => (first | omega | (simp; done) | (simp; omega)))) | ((with_reducible refine Below.setCell ?_ ?hB _); (case hB => (first | omega | (simp; done) | (simp; omega)))) | (with_reducible refine Below.drew ?_) | ((with_reducible refine below_ext_of ?_ ?hB); (case hB => (first | omega | (simp; done) | (simp; omega)))) | ((with_reducible refine Below.trans ?_ (Below.mono (by assumption) ?hB)); (case hB => (first | omega | (simp; done) | (simp; omega))))))) hzw)⟩
        · have ho : openP g = false := by unfold openP; exact decide_eq_false (fun h => hg0 h.1)
          rw [ho] at hmore
          simp only [Bool.not_false] at hmore
          go_wp2_with (first | ((at_builtin; refine print_append_row (w0 := wr) (wr.heap.size) rfl _ _ 28 5 .u8 1 rfl Try.underlying28 info_u8 (by decide) _ ([]) (b) _ _ _ rfl rfl (pw_own_below (own_nilB wr wr.heap.size) ?_) (ReadsInt.below HS6.out.rd ?_) ?_ ?_ ?_ ?_; (focus ((repeat (first | (with_reducible exact Below.refl _ _) | ((with_reducible refine Below.alloc ?_ ?hB _); (case hB => (first | omega | (simp; done) | (simp; omega)))) | ((with_reducible refine Below.setCell ?_ ?hB _); (case hB => (first | omega | (simp; done) | (simp; omega)))) | (with_reducible refine Below.drew ?_) | ((with_reducible refine below_ext_of ?_ ?hB); (case hB => (first | omega | (simp; done) | (simp; omega)))) | ((with_reducible refine Below.trans ?_ (Below.mono (by assumption) ?hB)); (case hB => (first | omega | (simp; done) | (simp; omega)))))); done)); (focus ((repeat (first | (with_reducible exact Below.refl _ _) | ((with_reducible refine Below.alloc ?_ ?hB _); (case hB => (first | omega | (simp; done) | (simp; omega)))) | ((with_reducible refine Below.setCell ?_ ?hB _); (case hB => (first | omega | (simp; done) | (simp; omega)))) | (with_reducible refine Below.drew ?_) | ((with_reducible refine below_ext_of ?_ ?hB); (case hB => (first | omega | (simp; done) | (simp; omega)))) | ((with_reducible refine Below.trans ?_ (Below.mono (by assumption) ?hB)); (case hB => (first | omega | (simp; done) | (simp; omega)))))); done)); (focus ((repeat (first | (with_reducible exact Below.refl _ _) | ((with_reducible refine Below.alloc ?_ ?hB _); (case hB => (first | omega | (simp; done) | (simp; omega)))) | ((with_reducible refine Below.setCell ?_ ?hB _); (case hB => (first | omega | (simp; done) | (simp; omega)))) | (with_reducible refine Below.drew ?_) | ((with_reducible refine below_ext_of ?_ ?hB); (case hB => (first | omega | (simp; done) | (simp; omega)))) | ((with_reducible refine Below.trans ?_ (Below.mono (by assumption) ?hB)); (case hB => (first | omega | (simp; done) | (simp; omega)))))); done)); (focus ((first | omega | (simp; done) | (simp; omega)); done)); (focus ((try simp only [List.length_append, List.length_cons, List.length_nil]); omega)); intro v7 w7 hown7 hb7 _ _; have hz7 := hb7.size; (try simp only [World.size_alloc, World.size_setCell, World.size_drew] at hz7); obtain ⟨hc7, hf7⟩ := bcellB hb7); simp only [List.nil_append] at hown7) | (at_builtin; refine append_lit (w0 := wr) (wr.heap.size) rfl rfl _ (b) ([x]) rfl ?_ (pw_own_below hown7 ?_) ?_ ?_ ?_ ?_; (focus (first | (go_simp; done) | (go_simp; rfl))); (focus ((repeat (first | (with_reducible exact Below.refl _ _) | ((with_reducible refine Below.alloc ?_ ?hB _); (case hB => (first | omega | (simp; done) | (simp; omega)))) | ((with_reducible refine Below.setCell ?_ ?hB _); (case hB => (first | omega | (simp; done) | (simp; omega)))) | (with_reducible refine Below.drew ?_) | ((with_reducible refine below_ext_of ?_ ?hB); (case hB => (first | omega | (simp; done) | (simp; omega)))) | ((with_reducible refine Below.trans ?_ (Below.mono (by assumption) ?hB)); (case hB => (first | omega | (simp; done) | (simp; omega)))))); done)); (focus ((repeat (first | (with_reducible exact Below.refl _ _) | ((with_reducible refine Below.alloc ?_ ?hB _); (case hB => (first | omega | (simp; done) | (simp; omega)))) | ((with_reducible refine Below.setCell ?_ ?hB _); (case hB => (first | omega | (simp; done) | (simp; omega)))) | (with_reducible refine Below.drew ?_) | ((with_reducible refine below_ext_of ?_ ?hB); (case hB => (first | omega | (simp; done) | (simp; omega)))) | ((with_reducible refine Below.trans ?_ (Below.mono (by assumption) ?hB)); (case hB => (first | omega | (simp; done) | (simp; omega)))))); done)); (focus ((first | omega | (simp; done) | (simp; omega)); done)); (focus ((simp only [List.length_append, List.length_cons, List.length_nil, b4]); omega)); intro v8 w8 hown8 hb8; have hz8 := hb8.size; (try simp only [World.size_alloc, World.size_setCell, World.size_drew] at hz8); obtain ⟨hc8, hf8⟩ := bcellB hb8) | (go_at_call 50; (with_reducible refine (cM _ _ hown8).mono ?_); rintro e w9 ⟨A9, c9, n9, rfl, hb9⟩; have hz9 := hb9.size; clear cM) | (go_at_call 22; (with_reducible refine (args_lives _).mono ?_); rintro e w1 ⟨rfl, hb1⟩; obtain ⟨hc1, hf1⟩ := bcell hb1; have hz1 := hb1.size; (try simp only [World.size_alloc, World.size_setCell, World.size_drew] at hz1)))
          go_ret
          exact ⟨rfl, HBW.out.trans (Below.mono (by (repeat (first | (with_reducible exact Below.refl _ _) | ((with_reducible refine Below.alloc ?_ ?hB _); (case hB => (first | omega | (simp; done) | (simp; omega)))) | ((with_reducible refine Below.setCell ?_ ?hB _); (case hB => (first | omega | (simp; done) | (simp; omega)))) | (with_reducible refine Below.drew ?_) | ((with_reducible refine below_ext_of ?_ ?hB); (case hB => (first | omega | (simp; done) | (simp; omega)))) | ((with_reducible refine Below.trans ?_ (Below.mono (by assumption) ?hB)); (case hB => (first | omega | (simp; done) | (simp; omega))))))) hzw)⟩
      · have hb1 : 0 < b.length := by omega
        obtain ⟨m, hm⟩ : ∃ m, b.length = m + 1 := ⟨b.length - 1, by omega⟩
        have e1 : (b.length : Int) - 1 = (m : Int) := by omega
        have hmb : m ≤ b.length := by omega
        have cT := fun w hs => cT w m hmb hs
        have hm4 : m ≤ c4 := by omega
        have HE := Lib.hid (show openP g = false → (unpackP g (b.take m)).1 = 3 from fun ho => by rw [hless ho m hm.symm])
        obtain ⟨lc, hlc⟩ : ∃ lc, (unpackP g (b.take m)).1 = lc := ⟨_, rfl⟩
        rw [hlc] at cT HE
        clear hless hb0 hlc hm
        by_cases hg0 : 0 < g.size
        · have hlast := last_is g hg0
          cases ho : openP g
          · rw [ho] at hlast hmore
            simp only [Bool.not_false, Bool.not_true] at hmore
            have hlc := HE.out ho
            subst hlc
            go_wp2_with (first | ((at_builtin; refine print_append_row (w0 := wr) (wr.heap.size) rfl _ _ 28 5 .u8 1 rfl Try.underlying28 info_u8 (by decide) _ ([]) (b) _ _ _ rfl rfl (pw_own_below (own_nilB wr wr.heap.size) ?_) (ReadsInt.below HS6.out.rd ?_) ?_ ?_ ?_ ?_; (focus ((repeat (first | (with_reducible exact Below.refl _ _) | ((with_reducible refine Below.alloc ?_ ?hB _); (case hB => (first | omega | (simp; done) | (simp; omega)))) | ((with_reducible refine Below.setCell ?_ ?hB _); (case hB => (first | omega | (simp; done) | (simp; omega)))) | (with_reducible refine Below.drew ?_) | ((with_reducible refine below_ext_of ?_ ?hB); (case hB => (first | omega | (simp; done) | (simp; omega)))) | ((with_reducible refine Below.trans ?_ (Below.mono (by assumption) ?hB)); (case hB => (first | omega | (simp; done) | (simp; omega)))))); done)); (focus ((repeat (first | (with_reducible exact Below.refl _ _) | ((with_reducible refine Below.alloc ?_ ?hB _); (case hB => (first | omega | (simp; done) | (simp; omega)))) | ((with_reducible refine Below.setCell ?_ ?hB _); (case hB => (first | omega | (simp; done) | (simp; omega)))) | (with_reducible refine Below.drew ?_) | ((with_reducible refine below_ext_of ?_ ?hB); (case hB => (first | omega | (simp; done) | (simp; omega)))) | ((with_reducible refine Below.trans ?_ (Below.mono (by assumption) ?hB)); (case hB => (first | omega | (simp; done) | (simp; omega)))))); done)); (focus ((repeat (first | (with_reducible exact Below.refl _ _) | ((with_reducible refine Below.alloc ?_ ?hB _); (case hB => (first | omega | (simp; done) | (simp; omega)))) | ((with_reducible refine Below.setCell ?_ ?hB _); (case hB => (first | omega | (simp; done) | (simp; omega)))) | (with_reducible refine Below.drew ?_) | ((with_reducible refine below_ext_of ?_ ?hB); (case hB => (first | omega | (simp; done) | (simp; omega)))) | ((with_reducible refine Below.trans ?_ (Below.mono (by assumption) ?hB)); (case hB => (first | omega | (simp; done) | (simp; omega)))))); done)); (focus ((first | omega | (simp; done) | (simp; omega)); done)); (focus ((try simp only [List.length_append, List.length_cons, List.length_nil]); omega)); intro v7 w7 hown7 hb7 _ _; have hz7 := hb7.size; (try simp only [World.size_alloc, World.size_setCell, World.size_drew] at hz7); obtain ⟨hc7, hf7⟩ := bcellB hb7); simp only [List.nil_append] at hown7) | (at_builtin; refine append_lit (w0 := wr) (wr.heap.size) rfl rfl _ (b) ([x]) rfl ?_ (pw_own_below hown7 ?_) ?_ ?_ ?_ ?_; (focus (first | (go_simp; done) | (go_simp; rfl))); (focus ((repeat (first | (with_reducible exact Below.refl _ _) | ((with_reducible refine Below.alloc ?_ ?hB _); (case hB => (first | omega | (simp; done) | (simp; omega)))) | ((with_reducible refine Below.setCell ?_ ?hB _); (case hB => (first | omega | (simp; done) | (simp; omega)))) | (with_reducible refine Below.drew ?_) | ((with_reducible refine below_ext_of ?_ ?hB); (case hB => (first | omega | (simp; done) | (simp; omega)))) | ((with_reducible refine Below.trans ?_ (Below.mono (by assumption) ?hB)); (case hB => (first | omega | (simp; done) | (simp; omega)))))); done)); (focus ((repeat (first | (with_reducible exact Below.refl _ _) | ((with_reducible refine Below.alloc ?_ ?hB _); (case hB => (first | omega | (simp; done) | (simp; omega)))) | ((with_reducible refine Below.setCell ?_ ?hB _); (case hB => (first | omega | (simp; done) | (simp; omega)))) | (with_reducible refine Below.drew ?_) | ((with_reducible refine below_ext_of ?_ ?hB); (case hB => (first | omega | (simp; done) | (simp; omega)))) | ((with_reducible refine Below.trans ?_ (Below.mono (by assumption) ?hB)); (case hB => (first | omega | (simp; done) | (simp; omega)))))); done)); (focus ((first | omega | (simp; done) | (simp; omega)); done)); (focus ((simp only [List.length_append, List.length_cons, List.length_nil, b4]); omega)); intro v8 w8 hown8 hb8; have hz8 := hb8.size; (try simp only [World.size_alloc, World.size_setCell, World.size_drew] at hz8); obtain ⟨hc8, hf8⟩ := bcellB hb8) | (go_at_call 50; (with_reducible refine (cM _ _ hown8).mono ?_); rintro e w9 ⟨A9, c9, n9, rfl, hb9⟩; have hz9 := hb9.size; clear cM) | (go_at_call 50; (with_reducible refine (cT _ (HS6.out.below ?_)).mono ?_); (focus ((repeat (first | (with_reducible exact Below.refl _ _) | ((with_reducible refine Below.alloc ?_ ?hB _); (case hB => (first | omega | (simp; done) | (simp; omega)))) | ((with_reducible refine Below.setCell ?_ ?hB _); (case hB => (first | omega | (simp; done) | (simp; omega)))) | (with_reducible refine Below.drew ?_) | ((with_reducible refine below_ext_of ?_ ?hB); (case hB => (first | omega | (simp; done) | (simp; omega)))) | ((with_reducible refine Below.trans ?_ (Below.mono (by assumption) ?hB)); (case hB => (first | omega | (simp; done) | (simp; omega)))))); done)); rintro e w10 ⟨A10, c10, k10, rfl, hb10⟩; have hz10 := hb10.size; clear cT) | (go_at_call 22; (with_reducible refine (args_lives _).mono ?_); rintro e w1 ⟨rfl, hb1⟩; obtain ⟨hc1, hf1⟩ := bcell hb1; have hz1 := hb1.size; (try simp only [World.size_alloc, World.size_setCell, World.size_drew] at hz1)))
            go_ret
            exact ⟨rfl, HBW.out.trans (Below.mono (by (repeat (first | (with_reducible exact Below.refl _ _) | ((with_reducible refine Below.alloc ?_ ?hB _); (case hB => (first | omega | (simp; done) | (simp; omega)))) | ((with_reducible refine Below.setCell ?_ ?hB _); (case hB => (first | omega | (simp; done) | (simp; omega)))) | (with_reducible refine Below.drew ?_) | ((with_reducible refine below_ext_of ?_ ?hB); (case hB => (first | omega | (simp; done) | (simp; omega)))) | ((with_reducible refine Below.trans ?_ (Below.mono (by assumption) ?hB)); (case hB => (first | omega | (simp; done) | (simp; omega))))))) hzw)⟩
          · rw [ho] at hlast hmore
            simp only [Bool.not_false, Bool.not_true] at hmore
            go_wp2_with (first | ((at_builtin; refine print_append_row (w0 := wr) (wr.heap.size) rfl _ _ 28 5 .u8 1 rfl Try.underlying28 info_u8 (by decide) _ ([]) (b) _ _ _ rfl rfl (pw_own_below (own_nilB wr wr.heap.size) ?_) (ReadsInt.below HS6.out.rd ?_) ?_ ?_ ?_ ?_; (focus ((repeat (first | (with_reducible exact Below.refl _ _) | ((with_reducible refine Below.alloc ?_ ?hB _); (case hB => (first | omega | (simp; done) | (simp; omega)))) | ((with_reducible refine Below.setCell ?_ ?hB _); (case hB => (first | omega | (simp; done) | (simp; omega)))) | (with_reducible refine Below.drew ?_) | ((with_reducible refine below_ext_of ?_ ?hB); (case hB => (first | omega | (simp; done) | (simp; omega)))) | ((with_reducible refine Below.trans ?_ (Below.mono (by assumption) ?hB)); (case hB => (first | omega | (simp; done) | (simp; omega)))))); done)); (focus ((repeat (first | (with_reducible exact Below.refl _ _) | ((with_reducible refine Below.alloc ?_ ?hB _); (case hB => (first | omega | (simp; done) | (simp; omega)))) | ((with_reducible refine Below.setCell ?_ ?hB _); (case hB => (first | omega | (simp; done) | (simp; omega)))) | (with_reducible refine Below.drew ?_) | ((with_reducible refine below_ext_of ?_ ?hB); (case hB => (first | omega | (simp; done) | (simp; omega)))) | ((with_reducible refine Below.trans ?_ (Below.mono (by assumption) ?hB)); (case hB => (first | omega | (simp; done) | (simp; omega)))))); done)); (focus ((repeat (first | (with_reducible exact Below.refl _ _) | ((with_reducible refine Below.alloc ?_ ?hB _); (case hB => (first | omega | (simp; done) | (simp; omega)))) | ((with_reducible refine Below.setCell ?_ ?hB _); (case hB => (first | omega | (simp; done) | (simp; omega)))) | (with_reducible refine Below.drew ?_) | ((with_reducible refine below_ext_of ?_ ?hB); (case hB => (first | omega | (simp; done) | (simp; omega)))) | ((with_reducible refine Below.trans ?_ (Below.mono (by assumption) ?hB)); (case hB => (first | omega | (simp; done) | (simp; omega)))))); done)); (focus ((first | omega | (simp; done) | (simp; omega)); done)); (focus ((try simp only [List.length_append, List.length_cons, List.length_nil]); omega)); intro v7 w7 hown7 hb7 _ _; have hz7 := hb7.size; (try simp only [World.size_alloc, World.size_setCell, World.size_drew] at hz7); obtain ⟨hc7, hf7⟩ := bcellB hb7); simp only [List.nil_append] at hown7) | (at_builtin; refine append_lit (w0 := wr) (wr.heap.size) rfl rfl _ (b) ([x]) rfl ?_ (pw_own_below hown7 ?_) ?_ ?_ ?_ ?_; (focus (first | (go_simp; done) | (go_simp; rfl))); (focus ((repeat (first | (with_reducible exact Below.refl _ _) | ((with_reducible refine Below.alloc ?_ ?hB _); (case hB => (first | omega | (simp; done) | (simp; omega)))) | ((with_reducible refine Below.setCell ?_ ?hB _); (case hB => (first | omega | (simp; done) | (simp; omega)))) | (with_reducible refine Below.drew ?_) | ((with_reducible refine below_ext_of ?_ ?hB); (case hB => (first | omega | (simp; done) | (simp; omega)))) | ((with_reducible refine Below.trans ?_ (Below.mono (by assumption) ?hB)); (case hB => (first | omega | (simp; done) | (simp; omega)))))); done)); (focus ((repeat (first | (with_reducible exact Below.refl _ _) | ((with_reducible refine Below.alloc ?_ ?hB _); (case hB => (first | omega | (simp; done) | (simp; omega)))) | ((with_reducible refine Below.setCell ?_ ?hB _); (case hB => (first | omega | (simp; done) | (simp; omega)))) | (with_reducible refine Below.drew ?_) | ((with_reducible refine below_ext_of ?_ ?hB); (case hB => (first | omega | (simp; done) | (simp; omega)))) | ((with_reducible refine Below.trans ?_ (Below.mono (by assumption) ?hB)); (case hB => (first | omega | (simp; done) | (simp; omega)))))); done)); (focus ((first | omega | (simp; done) | (simp; omega)); done)); (focus ((simp only [List.length_append, List.length_cons, List.length_nil, b4]); omega)); intro v8 w8 hown8 hb8; have hz8 := hb8.size; (try simp only [World.size_alloc, World.size_setCell, World.size_drew] at hz8); obtain ⟨hc8, hf8⟩ := bcellB hb8) | (go_at_call 50; (with_reducible refine (cM _ _ hown8).mono ?_); rintro e w9 ⟨A9, c9, n9, rfl, hb9⟩; have hz9 := hb9.size; clear cM) | (go_at_call 50; (with_reducible refine (cT _ (HS6.out.below ?_)).mono ?_); (focus ((repeat (first | (with_reducible exact Below.refl _ _) | ((with_reducible refine Below.alloc ?_ ?hB _); (case hB => (first | omega | (simp; done) | (simp; omega)))) | ((with_reducible refine Below.setCell ?_ ?hB _); (case hB => (first | omega | (simp; done) | (simp; omega)))) | (with_reducible refine Below.drew ?_) | ((with_reducible refine below_ext_of ?_ ?hB); (case hB => (first | omega | (simp; done) | (simp; omega)))) | ((with_reducible refine Below.trans ?_ (Below.mono (by assumption) ?hB)); (case hB => (first | omega | (simp; done) | (simp; omega)))))); done)); rintro e w10 ⟨A10, c10, k10, rfl, hb10⟩; have hz10 := hb10.size; clear cT) | (go_at_call 22; (with_reducible refine (args_lives _).mono ?_); rintro e w1 ⟨rfl, hb1⟩; obtain ⟨hc1, hf1⟩ := bcell hb1; have hz1 := hb1.size; (try simp only [World.size_alloc, World.size_setCell, World.size_drew] at hz1)))
            go_ret
            exact ⟨rfl, HBW.out.trans (Below.mono (by (repeat (first | (with_reducible exact Below.refl _ _) | ((with_reducible refine Below.alloc ?_ ?hB _); (case hB => (first | omega | (simp; done) | (simp; omega)))) | ((with_reducible refine Below.setCell ?_ ?hB _); (case hB => (first | omega | (simp; done) | (simp; omega)))) | (with_reducible refine Below.drew ?_) | ((with_reducible refine below_ext_of ?_ ?hB); (case hB => (first | omega | (simp; done) | (simp; omega)))) | ((with_reducible refine Below.trans ?_ (Below.mono (by assumption) ?hB)); (case hB => (first | omega | (simp; done) | (simp; omega))))))) hzw)⟩
        · have ho : openP g = false := by unfold openP; exact decide_eq_false (fun h => hg0 h.1)
          rw [ho] at hmore
          simp only [Bool.not_false] at hmore
          have hlc := HE.out ho
          subst hlc
          go_wp2_with (first | ((at_builtin; refine print_append_row (w0 := wr) (wr.heap.size) rfl _ _ 28 5 .u8 1 rfl Try.underlying28 info_u8 (by decide) _ ([]) (b) _ _ _ rfl rfl (pw_own_below (own_nilB wr wr.heap.size) ?_) (ReadsInt.below HS6.out.rd ?_) ?_ ?_ ?_ ?_; (focus ((repeat (first | (with_reducible exact Below.refl _ _) | ((with_reducible refine Below.alloc ?_ ?hB _); (case hB => (first | omega | (simp; done) | (simp; omega)))) | ((with_reducible refine Below.setCell ?_ ?hB _); (case hB => (first | omega | (simp; done) | (simp; omega)))) | (with_reducible refine Below.drew ?_) | ((with_reducible refine below_ext_of ?_ ?hB); (case hB => (first | omega | (simp; done) | (simp; omega)))) | ((with_reducible refine Below.trans ?_ (Below.mono (by assumption) ?hB)); (case hB => (first | omega | (simp; done) | (simp; omega)))))); done)); (focus ((repeat (first | (with_reducible exact Below.refl _ _) | ((with_reducible refine Below.alloc ?_ ?hB _); (case hB => (first | omega | (simp; done) | (simp; omega)))) | ((with_reducible refine Below.setCell ?_ ?hB _); (case hB => (first | omega | (simp; done) | (simp; omega)))) | (with_reducible refine Below.drew ?_) | ((with_reducible refine below_ext_of ?_ ?hB); (case hB => (first | omega | (simp; done) | (simp; omega)))) | ((with_reducible refine Below.trans ?_ (Below.mono (by assumption) ?hB)); (case hB => (first | omega | (simp; done) | (simp; omega)))))); done)); (focus ((repeat (first | (with_reducible exact Below.refl _ _) | ((with_reducible refine Below.alloc ?_ ?hB _); (case hB => (first | omega | (simp; done) | (simp; omega)))) | ((with_reducible refine Below.setCell ?_ ?hB _); (case hB => (first | omega | (simp; done) | (simp; omega)))) | (with_reducible refine Below.drew ?_) | ((with_reducible refine below_ext_of ?_ ?hB); (case hB => (first | omega | (simp; done) | (simp; omega)))) | ((with_reducible refine Below.trans ?_ (Below.mono (by assumption) ?hB)); (case hB => (first | omega | (simp; done) | (simp; omega)))))); done)); (focus ((first | omega | (simp; done) | (simp; omega)); done)); (focus ((try simp only [List.length_append, List.length_cons, List.length_nil]); omega)); intro v7 w7 hown7 hb7 _ _; have hz7 := hb7.size; (try simp only [World.size_alloc, World.size_setCell, World.size_drew] at hz7); obtain ⟨hc7, hf7⟩ := bcellB hb7); simp only [List.nil_append] at hown7) | (at_builtin; refine append_lit (w0 := wr) (wr.heap.size) rfl rfl _ (b) ([x]) rfl ?_ (pw_own_below hown7 ?_) ?_ ?_ ?_ ?_; (focus (first | (go_simp; done) | (go_simp; rfl))); (focus ((repeat (first | (with_reducible exact Below.refl _ _) | ((with_reducible refine Below.alloc ?_ ?hB _); (case hB => (first | omega | (simp; done) | (simp; omega)))) | ((with_reducible refine Below.setCell ?_ ?hB _); (case hB => (first | omega | (simp; done) | (simp; omega)))) | (with_reducible refine Below.drew ?_) | ((with_reducible refine below_ext_of ?_ ?hB); (case hB => (first | omega | (simp; done) | (simp; omega)))) | ((with_reducible refine Below.trans ?_ (Below.mono (by assumption) ?hB)); (case hB => (first | omega | (simp; done) | (simp; omega)))))); done)); (focus ((repeat (first | (with_reducible exact Below.refl _ _) | ((with_reducible refine Below.alloc ?_ ?hB _); (case hB => (first | omega | (simp; done) | (simp; omega)))) | ((with_reducible refine Below.setCell ?_ ?hB _); (case hB => (first | omega | (simp; done) | (simp; omega)))) | (with_reducible refine Below.drew ?_) | ((with_reducible refine below_ext_of ?_ ?hB); (case hB => (first | omega | (simp; done) | (simp; omega)))) | ((with_reducible refine Below.trans ?_ (Below.mono (by assumption) ?hB)); (case hB => (first | omega | (simp; done) | (simp; omega)))))); done)); (focus ((first | omega | (simp; done) | (simp; omega)); done)); (focus ((simp only [List.length_append, List.length_cons, List.length_nil, b4]); omega)); intro v8 w8 hown8 hb8; have hz8 := hb8.size; (try simp only [World.size_alloc, World.size_setCell, World.size_drew] at hz8); obtain ⟨hc8, hf8⟩ := bcellB hb8) | (go_at_call 50; (with_reducible refine (cM _ _ hown8).mono ?_); rintro e w9 ⟨A9, c9, n9, rfl, hb9⟩; have hz9 := hb9.size; clear cM) | (go_at_call 50; (with_reducible refine (cT _ (HS6.out.below ?_)).mono ?_); (focus ((repeat (first | (with_reducible exact Below.refl _ _) | ((with_reducible refine Below.alloc ?_ ?hB _); (case hB => (first | omega | (simp; done) | (simp; omega)))) | ((with_reducible refine Below.setCell ?_ ?hB _); (case hB => (first | omega | (simp; done) | (simp; omega)))) | (with_reducible refine Below.drew ?_) | ((with_reducible refine below_ext_of ?_ ?hB); (case hB => (first | omega | (simp; done) | (simp; omega)))) | ((with_reducible refine Below.trans ?_ (Below.mono (by assumption) ?hB)); (case hB => (first | omega | (simp; done) | (simp; omega)))))); done)); rintro e w10 ⟨A10, c10, k10, rfl, hb10⟩; have hz10 := hb10.size; clear cT) | (go_at_call 22; (with_reducible refine (args_lives _).mono ?_); rintro e w1 ⟨rfl, hb1⟩; obtain ⟨hc1, hf1⟩ := bcell hb1; have hz1 := hb1.size; (try simp only [World.size_alloc, World.size_setCell, World.size_drew] at hz1)))
          go_ret
          exact ⟨rfl, HBW.out.trans (Below.mono (by (repeat (first | (with_reducible exact Below.refl _ _) | ((with_reducible refine Below.alloc ?_ ?hB _); (case hB => (first | omega | (simp; done) | (simp; omega)))) | ((with_reducible refine Below.setCell ?_ ?hB _); (case hB => (first | omega | (simp; done) | (simp; omega)))) | (with_reducible refine Below.drew ?_) | ((with_reducible refine below_ext_of ?_ ?hB); (case hB => (first | omega | (simp; done) | (simp; omega)))) | ((with_reducible refine Below.trans ?_ (Below.mono (by assumption) ?hB)); (case hB => (first | omega | (simp; done) | (simp; omega))))))) hzw)⟩
end Go.Proofs.Yteldbnelfeiifaa
