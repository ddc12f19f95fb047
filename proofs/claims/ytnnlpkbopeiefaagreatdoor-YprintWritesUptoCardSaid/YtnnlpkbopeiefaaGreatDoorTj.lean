import Derived.Test.YtnnlpkbopeiefaaGreatDoorTh
import Derived.Deep.RegionHeld3
import Derived.Test.YtnnlpkbopeiefaaGreatDoorWj
/-! The reference's blanks, behind, block. Printed by mktj.py. -/
namespace Go.Proofs.YtnnlpkbopeiefaaGreatDoor
set_option linter.unusedSimpArgs false
set_option linter.unusedVariables false
open Go.RowKit
open Go.Lib hiding intOf
def rpL (t : VT) (R i : Nat) : Stp := if t.kind = 6 then ymemL (t.items.take i) t.keys R else yitemL (t.items.take i) R
theorem rpL_len {t : VT} {R : Nat} (h : R + 2 * t.depth ≤ 1024) (i : Nat) : (rpL t R i).length ≤ 2500 * t.bulk := by
  have h1 : t.bulk = t.text.length + (totS t.keys + t.keys.length) + bulks t.items + 1 := by cases t; rw [VT.bulk]; rfl
  have h2 : t.depth = depths t.items + 1 := by cases t; rw [VT.depth]; rfl
  have h3 : bulks t.items = bulks (t.items.take i) + bulks (t.items.drop i) := by rw [← bulks_app, List.take_append_drop]
  have h4 : depths t.items = max (depths (t.items.take i)) (depths (t.items.drop i)) := by rw [← depths_app, List.take_append_drop]
  unfold rpL
  split
  · have := ymem_len (t.items.take i) t.keys R (by omega)
    omega
  · have := yitem_len (t.items.take i) R (by omega)
    omega
theorem rpL_zero (t : VT) (R : Nat) : rpL t R 0 = [] := by
  unfold rpL
  rw [List.take_zero]
  split
  · rw [ymemL]
  · rw [yitemL]
theorem rpL_all {t : VT} {R : Nat} {N : Nat} (h : t.items.length = N) : rpL t R N = blockL t R := by
  unfold rpL blockL
  rw [← h, List.take_length]
theorem rpL_six {t : VT} {R i : Nat} {x : VT} {k : Stp} (h6 : t.kind = 6) (hx : t.items[i]? = some x) (hk : t.keys[i]? = some k) : rpL t R (i + 1) = rpL t R i ++ (List.replicate R 32 ++ ((keyY k).1 ++ [58]) ++ ybehL x R) := by
  unfold rpL
  rw [if_pos h6, if_pos h6]
  exact ymem_take _ _ _ _ _ _ hx hk
theorem rpL_not {t : VT} {R i : Nat} {x : VT} (h6 : ¬ t.kind = 6) (hx : t.items[i]? = some x) : rpL t R (i + 1) = rpL t R i ++ (List.replicate R 32 ++ [45] ++ ybehL x R) := by
  unfold rpL
  rw [if_neg h6, if_neg h6]
  exact yitem_take _ _ _ _ hx
set_option maxRecDepth 100000 in
set_option maxHeartbeats 1000000 in
theorem rblanks_any (n : Nat) (w : World) (hn : n ≤ 1048576) :
    Calls Tryz.prog 61 #[.int .i64 (n : Int)] w fun e w' => e = .returned (.string (bs (List.replicate n 32))) ∧ Below w.heap.size w w' := by
  go_enter Tryz.func61, Tryz.ntmps61
  go_wp2_with fail
  go_loopw [3, 4] (fun s3 s4 wr => ∃ i : Nat, s4 = .int .i64 (i : Int) ∧ i ≤ n ∧ Hid (OwnB w.heap.size wr s3 (List.replicate i 32)) ∧ Hid (Below w.heap.size w wr) ∧ w.heap.size ≤ wr.heap.size) (fun _ s4 _ => n - (RowKit.intOf s4).toNat)
  case atStart => exact ⟨0, rfl, Nat.zero_le _, Lib.hid (OwnB.nil _ _), Lib.hid (by first | exact Below.refl _ _ | exact (Below.refl _ _).drew), by first | exact Nat.le_refl _ | simp⟩
  case round =>
    obtain ⟨i, rfl, hi, HO, HBr, hz⟩ := hrel
    by_cases hlt : i < n
    · have dk : decide ((i : Int) < (n : Int)) = true := decide_eq_true (by omega)
      have hiz : (i : Int) < (n : Int) := by omega
      go_wp2_with (at_builtin; go_must (refine wpList_bytes rfl _ _ rfl w.heap.size wr u3 (List.replicate i 32) [32] rfl HO.out _ rfl (by unfold byteCells; simp) (by simp; omega) hz ?_); intro v1 w1 hown1 hbel1)
      go_roundw
      case rel => exact ⟨i + 1, by go_num, by omega, Lib.hid (by rw [List.replicate_succ']; exact hown1), Lib.hid (HBr.out.trans hbel1), Nat.le_trans hz hbel1.size⟩
      case measure => simp [RowKit.intOf]; omega
    · have dk : decide ((i : Int) < (n : Int)) = false := decide_eq_false (by omega)
      obtain rfl : i = n := by omega
      have hcv := run_text HO.out
      go_wp2_with fail
      go_ret
      exact ⟨rfl, HBr.out⟩
def RBh (n : Nat) : Prop := ∀ (t : VT) (kv iv : Value) (w : World) (ind : Nat), VD w n t kv iv → t.bulk ≤ 2000000 → ind + 2 * t.depth ≤ 1024 → everyB rnodeB t = true → YVar w →
    Calls Tryz.prog 62 #[vv t kv iv, .int .i64 (ind : Int)] w fun e w' => e = .returned (.string (bs (ybehL t ind))) ∧ Below w.heap.size w w'
def RBk (n : Nat) : Prop := ∀ (t : VT) (kv iv : Value) (w : World) (ind : Nat), VD w n t kv iv → t.bulk ≤ 2000000 → ind + 2 * t.depth ≤ 1026 → everyB rnodeB t = true → YVar w →
    Calls Tryz.prog 59 #[vv t kv iv, .int .i64 (ind : Int)] w fun e w' => e = .returned (.string (bs (blockL t ind))) ∧ Below w.heap.size w w'
theorem block_len2 {t : VT} {i : Nat} (h : i + 2 * t.depth ≤ 1026) : (blockL t i).length ≤ 2500 * t.bulk := by
  have h1 : t.bulk = t.text.length + (totS t.keys + t.keys.length) + bulks t.items + 1 := by cases t; rw [VT.bulk]; rfl
  have h2 : t.depth = depths t.items + 1 := by cases t; rw [VT.depth]; rfl
  unfold blockL
  split
  · have := ymem_len t.items t.keys i (by omega)
    omega
  · have := yitem_len t.items i (by omega)
    omega
set_option maxRecDepth 100000 in
set_option maxHeartbeats 1000000 in
theorem rbehind_of (n : Nat) (hB : RBk n) : RBh n := by
  intro t kv iv w ind h hbk hdp hev hV
  obtain ⟨pk, ck, p, c, rfl, rfl⟩ := h.form
  obtain ⟨X, hX⟩ : ∃ X, w.heap.size = X := ⟨_, rfl⟩
  obtain ⟨W1, hW1⟩ : ∃ W, w.alloc (.cells #[.int .i64 t.kind, .string (bs t.text), .slice pk t.keys.length ck, .slice p t.items.length c] 25) = W := ⟨_, rfl⟩
  have HB1 : Hid (Below w.heap.size w W1) := Lib.hid (by rw [← hW1]; exact below_alloc1 _ _)
  have HXB : Hid (VBox W1 X t (.slice pk t.keys.length ck) (.slice p t.items.length c)) := Lib.hid (by rw [← hW1, ← hX]; exact VBox.new w t _ _)
  have HVD := Lib.hid (h.keep HB1.out)
  have HV := Lib.hid (hV.keep HB1.out)
  have hdp2 : 1 ≤ t.depth := by cases t; rw [VT.depth]; omega
  have CW := Lib.hid (rwrite_any n t _ _ W1 HVD.out (by omega) HV.out)
  have CBk : Hid (Calls Tryz.prog 59 #[vv t (.slice pk t.keys.length ck) (.slice p t.items.length c), .int .i64 ((ind : Int) + 2)] W1 fun e w2 => e = .returned (.string (bs (blockL t (ind + 2)))) ∧ Below W1.heap.size W1 w2) := Lib.hid (by
    have := hB t _ _ W1 (ind + 2) HVD.out hbk (by omega) hev HV.out
    rw [show (((ind + 2 : Nat)) : Int) = (ind : Int) + 2 by omega] at this
    exact this)
  have hwl := writeY_len t
  have hbl := block_len2 (t := t) (i := ind + 2) (by omega)
  have hye := ybehL_eq t ind
  rw [hye]
  unfold vv at CW CBk ⊢
  unfold QuotedE at CW
  obtain ⟨⟨A, er⟩, hA⟩ : ∃ Q, writeY t = Q := ⟨_, rfl⟩
  obtain ⟨C, hC⟩ : ∃ C, blockL t (ind + 2) = C := ⟨_, rfl⟩
  rw [hA] at CW hwl ⊢
  rw [hC] at CBk hbl ⊢
  have hAl : A.length ≤ 700 * t.bulk + 172 := hwl
  simp only [] at CW ⊢
  have slA := bs_size A
  have slC := bs_size C
  clear h hev hV hA hC hye hwl
  by_cases hn : 0 < t.items.length
  · have dn : decide ((0 : Int) < (t.items.length : Int)) = true := decide_eq_true (by omega)
    rw [if_neg (by rw [List.isEmpty_iff_length_eq_zero]; omega)]
    have hn2 : 0 < t.items.length := hn
    go_enter Tryz.func62, Tryz.ntmps62
    go_upto_region 1 with fail
    clear hW1
    obtain ⟨b0, b1, b2, b3⟩ := HXB.out.cells
    go_wp2_with fail
    refine CBk.out.mono ?_
    rintro e w2 ⟨rfl, hb2⟩
    have HB2 := Lib.hid (below_of_new HB1.out hb2)
    clear hb2 b0 b1 b2 b3
    go_wp2_with fail
    go_ret
    exact ⟨by rw [show (10 :: C : Stp) = [10] ++ C from rfl, ← bs_append]; rfl, by first | exact HB2.out | (rw [← hX]; exact HB2.out)⟩
  · have hn0 : t.items.length = 0 := by omega
    rw [if_pos (by rw [List.isEmpty_iff_length_eq_zero]; omega)]
    rw [hn0] at hW1 HXB CW ⊢
    go_enter Tryz.func62, Tryz.ntmps62
    go_upto_region 1 with fail
    clear hW1
    obtain ⟨b0, b1, b2, b3⟩ := HXB.out.cells
    go_wp2_with fail
    refine CW.out.mono ?_
    rintro e w2 ⟨rfl, hb2⟩
    have HB2 := Lib.hid (below_of_new HB1.out hb2)
    clear hb2 b0 b1 b2 b3
    go_wp2_with fail
    go_ret
    exact ⟨by rw [← cat_line]; rfl, by first | exact HB2.out | (rw [← hX]; exact HB2.out)⟩
abbrev BkS (W1 : World) (X : Nat) (p : Value) (g q : Nat) (k : Int) (s : ByteArray) (kv iv : Value) (w : World) : Prop :=
  (w.cell? ⟨X, 3, none⟩ = some p ∧ w.cell? ⟨g, q, none⟩ = some (.int .i64 k) ∧ w.cell? ⟨g, q + 1, none⟩ = some (.string s) ∧ w.cell? ⟨g, q + 2, none⟩ = some kv ∧ w.cell? ⟨g, q + 3, none⟩ = some iv) ∧ Hid (Below W1.heap.size W1 w)
theorem BkS.step {W1 : World} {X : Nat} {p : Value} {g q : Nat} {k : Int} {s : ByteArray} {kv iv : Value} {w w' : World} (h : BkS W1 X p g q k s kv iv w) (hb : Below w.heap.size w w') : BkS W1 X p g q k s kv iv w' := by
  obtain ⟨⟨h0, h1, h2, h3, h4⟩, h5⟩ := h
  exact ⟨⟨by rw [hb.cell (p := ⟨X, 3, none⟩) (cell_lt h0)]; exact h0, by rw [hb.cell (p := ⟨g, q, none⟩) (cell_lt h1)]; exact h1, by rw [hb.cell (p := ⟨g, q + 1, none⟩) (cell_lt h2)]; exact h2, by rw [hb.cell (p := ⟨g, q + 2, none⟩) (cell_lt h3)]; exact h3, by rw [hb.cell (p := ⟨g, q + 3, none⟩) (cell_lt h4)]; exact h4⟩, Lib.hid (below_of_new h5.out hb)⟩
theorem BkS.drew {W1 : World} {X : Nat} {p : Value} {g q : Nat} {k : Int} {s : ByteArray} {kv iv : Value} {w : World} (h : BkS W1 X p g q k s kv iv w) : BkS W1 X p g q k s kv iv w.drew := h.step (Below.refl _ _).drew
theorem BkS.bel {W1 : World} {X : Nat} {p : Value} {g q : Nat} {k : Int} {s : ByteArray} {kv iv : Value} {w : World} (h : BkS W1 X p g q k s kv iv w) : Below W1.heap.size W1 w := h.2.out
set_option maxRecDepth 100000 in
set_option maxHeartbeats 2000000 in
theorem rblock_step (n : Nat) (IH : RBh n) : RBk (n + 1) := by
  intro t kv iv w ind h hbk hdp hev hV
  obtain ⟨m', hm, ⟨pk, ck, rfl, hck, hlies⟩, p, c, rfl, hlc, hit⟩ := h.parts
  obtain rfl : n = m' := by omega
  obtain ⟨X, hX⟩ : ∃ X, w.heap.size = X := ⟨_, rfl⟩
  obtain ⟨W1, hW1⟩ : ∃ W, w.alloc (.cells #[.int .i64 t.kind, .string (bs t.text), .slice pk t.keys.length ck, .slice p t.items.length c] 25) = W := ⟨_, rfl⟩
  have HB1 : Hid (Below w.heap.size w W1) := Lib.hid (by rw [← hW1]; exact below_alloc1 _ _)
  have HXB : Hid (VBox W1 X t (.slice pk t.keys.length ck) (.slice p t.items.length c)) := Lib.hid (by rw [← hW1, ← hX]; exact VBox.new w t _ _)
  have HIT := Lib.hid (hit.keep HB1.out)
  have HSL := Lib.hid (hlies.keep HB1.out)
  have hb0 : t.bulk = t.text.length + (totS t.keys + t.keys.length) + bulks t.items + 1 := by cases t; rw [VT.bulk]; rfl
  have hlen := len_le_bulks t.items
  have HV := Lib.hid (hV.keep HB1.out)
  obtain ⟨hrn, hel⟩ := every_node hev
  have HEL := Lib.hid (everyL_mem hel)
  have HKE := Lib.hid (fun h6 : t.kind = 6 => rnode_keys hrn h6)
  have hde : t.depth = depths t.items + 1 := by cases t; rw [VT.depth]; rfl
  have HPL : Hid (∀ i, (rpL t ind i).length ≤ 2500 * t.bulk) := Lib.hid (fun i => by
    have h3 : bulks t.items = bulks (t.items.take i) + bulks (t.items.drop i) := by rw [← bulks_app, List.take_append_drop]
    have h4 : depths t.items = max (depths (t.items.take i)) (depths (t.items.drop i)) := by rw [← depths_app, List.take_append_drop]
    unfold rpL
    split
    · have := ymem_len (t.items.take i) t.keys ind (by omega)
      omega
    · have := yitem_len (t.items.take i) ind (by omega)
      omega)
  obtain ⟨Z, hZ⟩ : ∃ Z, blockL t ind = Z := ⟨_, rfl⟩
  obtain ⟨N, hN⟩ : ∃ N, t.items.length = N := ⟨_, rfl⟩
  obtain ⟨K, hK⟩ : ∃ N, t.keys.length = N := ⟨_, rfl⟩
  have HTE : Hid (rpL t ind N = Z) := Lib.hid (by rw [rpL_all hN]; exact hZ)
  have HKN : Hid (t.kind = 6 → K = N) := Lib.hid (fun h6 => by rw [← hK, ← hN]; exact HKE.out h6)
  have HN := Lib.hid hN
  have HK := Lib.hid hK
  rw [hZ]
  unfold vv
  rw [hN, hK] at hW1 HXB ⊢
  rw [hN] at hlen
  have HXC : Hid (∀ w', Below W1.heap.size W1 w' → w'.cell? ⟨X, 0, none⟩ = some (.int .i64 t.kind) ∧ w'.cell? ⟨X, 1, none⟩ = some (.string (bs t.text)) ∧ w'.cell? ⟨X, 2, none⟩ = some (.slice pk K ck) ∧ w'.cell? ⟨X, 3, none⟩ = some (.slice p N c)) := Lib.hid (fun w' hb => (HXB.out.keep hb).cells)
  clear hit hlies h hm hev hrn hel hZ HXB hN hK hck hlc HKE hV
  go_enter Tryz.func59, Tryz.ntmps59
  go_upto_region 1 with fail
  clear hW1
  go_wp2_with fail
  go_loopw [5, 6, 7, 8, 9] (fun s5 s6 s7 s8 s9 wr => ∃ (i : Nat) (A : Stp), s5 = .string (bs A) ∧ s6 = .int .i64 (i : Int) ∧ i ≤ N ∧ A.length ≤ 5000000000 ∧ Hid (A = rpL t ind i) ∧ Hid (Below W1.heap.size W1 wr)) (fun _ s6 _ _ _ _ => N - (RowKit.intOf s6).toNat)
  case atStart => exact ⟨0, [], rfl, rfl, Nat.zero_le _, by simp, Lib.hid (rpL_zero t ind).symm, Lib.hid (by first | exact Below.refl _ _ | exact (Below.refl _ _).drew)⟩
  case round =>
    obtain ⟨i, A, rfl, rfl, hi, hAl, HA, HBr⟩ := hrel
    obtain ⟨b0, b1, b2, b3⟩ := HXC.out _ HBr.out
    by_cases hil : i < N
    · have dk : decide ((i : Int) < (N : Int)) = true := decide_eq_true (by omega)
      have hi1 : (i : Int) < (N : Int) := by omega
      obtain ⟨x, hx⟩ : ∃ x, t.items[i]? = some x := ⟨_, List.getElem?_eq_getElem (by have := HN.out; omega)⟩
      have hxm := List.mem_of_getElem? hx
      have hxb := bulk_mem hxm
      have hxd := depth_mem hxm
      obtain ⟨g, o, kv', iv', rfl, hg, n0, n1, n2, n3, hvd⟩ := HIT.out i x hx
      obtain ⟨pk2, ck2, px, cx, rfl, rfl⟩ := hvd.form
      have HX := Lib.hid hx
      have HGG := Lib.hid hg
      have HNN := Lib.hid (And.intro n0 (And.intro n1 (And.intro n2 n3)))
      have HBe : Hid (∀ w', Below W1.heap.size W1 w' → Calls Tryz.prog 62 #[.agg #[.int .i64 x.kind, .string (bs x.text), .slice pk2 x.keys.length ck2, .slice px x.items.length cx], .int .i64 (ind : Int)] w' fun e w2 => e = .returned (.string (bs (ybehL x ind))) ∧ Below w'.heap.size w' w2) := Lib.hid (fun w' hb => IH x _ _ w' ind (hvd.keep hb) (by omega) (by omega) (HEL.out x (List.mem_of_getElem? HX.out)) (HV.out.keep hb))
      have HBl := Lib.hid (fun w => rblanks_any ind w (by omega))
      have hyl := ybeh_len x ind (by omega)
      obtain ⟨P, hP⟩ : ∃ P, ybehL x ind = P := ⟨_, rfl⟩
      rw [hP] at HBe hyl
      have HPP := Lib.hid hP
      have hxs := size_pos x
      have hxs2 := size_le_bulk x
      obtain ⟨L, hL⟩ : ∃ L, List.replicate ind (32 : UInt8) = L := ⟨_, rfl⟩
      have hLl : L.length = ind := by rw [← hL, List.length_replicate]
      rw [hL] at HBl
      have HLL := Lib.hid hL
      clear hx hxm hvd n0 n1 n2 n3 hP hL hg
      have key : Hid (∃ H : Stp, rpL t ind (i + 1) = A ++ L ++ H ++ P ∧ H.length ≤ 336 * t.bulk + 173 ∧ ((¬ t.kind = 6 → H = [45]) ∧ (t.kind = 6 → ∃ y : Stp, t.keys[i]? = some y ∧ H = (keyY y).1 ++ [58]))) := Lib.hid (by
        by_cases h6 : t.kind = 6
        · obtain ⟨y, hy⟩ : ∃ y, t.keys[i]? = some y := ⟨_, List.getElem?_eq_getElem (by have := HK.out; have := HKN.out h6; omega)⟩
          have hym := totS_mem (List.mem_of_getElem? hy)
          have hyk := keyY_len y
          refine ⟨(keyY y).1 ++ [58], ?_, ?_, fun h => absurd h6 h, fun _ => ⟨y, hy, rfl⟩⟩
          · rw [rpL_six h6 HX.out hy, HA.out, HLL.out, HPP.out]; simp only [List.append_assoc]
          · simp only [List.length_append, List.length_singleton]; omega
        · refine ⟨[45], ?_, by simp, fun _ => rfl, fun h => absurd h h6⟩
          rw [rpL_not h6 HX.out, HA.out, HLL.out, HPP.out]; simp only [List.append_assoc])
      obtain ⟨H, hH1, hHl, hH6, hH7⟩ := key.out
      have HH1 := Lib.hid hH1
      have HH6 := Lib.hid hH6
      have HH7 := Lib.hid hH7
      have hnl : (A ++ L ++ H ++ P).length ≤ 5000000000 := by rw [← HH1.out]; have := HPL.out (i + 1); omega
      have hnl2 := hnl
      simp only [List.length_append] at hnl2
      have slA := bs_size A
      have slL := bs_size L
      have slH := bs_size H
      have slP := bs_size P
      clear hH1 hH6 hH7 key
      by_cases h6 : t.kind = 6
      · have d6 : (t.kind == 6) = true := by rw [h6]; rfl
        obtain ⟨y, hy, hHy⟩ := HH7.out h6
        have hKN := HKN.out h6
        have hym := totS_mem (List.mem_of_getElem? hy)
        have CK := Lib.hid (rwritekey_any y wr (by omega) (HV.out.keep HBr.out))
        unfold QuotedE at CK
        have hik : (i : Int) < (K : Int) := by omega
        obtain ⟨gk, ok, rfl, hck0⟩ := HSL.out.at_ hy
        have mk : wr.cell? ⟨gk, ok + i, none⟩ = some (.string (bs y)) := by rw [HBr.out.cell (p := ⟨gk, ok + i, none⟩) (cell_lt hck0)]; exact hck0
        obtain ⟨⟨B, er⟩, hB⟩ : ∃ Q, keyY y = Q := ⟨_, rfl⟩
        rw [hB] at CK hHy
        simp only [] at CK hHy
        have HHY := Lib.hid hHy
        have hBl : B.length + 1 = H.length := by rw [hHy]; simp
        have slB := bs_size B
        clear hKN hck0 hB hy hHy h6
        go_upto_if 19 with fail
        go_cut [7, 8, 9] (fun s7 s8 s9 wx => s7 = .string (bs H) ∧ Hid (Below W1.heap.size W1 wx))
        case first =>
          go_wp2_with fail
          refine CK.out.mono ?_
          rintro e w2 ⟨rfl, hb2⟩
          have HB2 := Lib.hid (below_of_new HBr.out hb2)
          clear hb2
          go_wp2_with fail
          go_meet
          exact ⟨by rw [HHY.out, ← bs_append]; rfl, HB2⟩
        case rest =>
        obtain ⟨rfl, HB2⟩ := hcut
        clear b0 b1 b2 b3 mk CK
        obtain ⟨b0, b1, b2, b3⟩ := HXC.out _ HB2.out
        have HS0 : BkS W1 X (.slice (some ⟨g, o, none⟩) N c) g (o + i * 4) x.kind (bs x.text) (.slice pk2 x.keys.length ck2) (.slice px x.items.length cx) wc := ⟨⟨b3, (HB2.out.cell (p := ⟨g, o + i * 4, none⟩) HGG.out).trans HNN.out.1, (HB2.out.cell (p := ⟨g, o + i * 4 + 1, none⟩) HGG.out).trans HNN.out.2.1, (HB2.out.cell (p := ⟨g, o + i * 4 + 2, none⟩) HGG.out).trans HNN.out.2.2.1, (HB2.out.cell (p := ⟨g, o + i * 4 + 3, none⟩) HGG.out).trans HNN.out.2.2.2⟩, HB2⟩
        clear b0 b1 b2 b3
        clear hLl
        have q1 : ¬ 9223372036854775807 < A.length + L.length := by omega
        have q2 : ¬ 9223372036854775807 < A.length + L.length + H.length := by omega
        have q3 : ¬ 9223372036854775807 < A.length + L.length + H.length + P.length := by omega
        have q4 : ¬ 9223372036854775807 < (bs A).size + (bs L).size := by omega
        have q5 : ¬ 9223372036854775807 < (bs A).size + (bs L).size + (bs H).size := by omega
        have q6 : ¬ 9223372036854775807 < (bs A).size + (bs L).size + (bs H).size + (bs P).size := by omega
        go_upto_region 9 with fail
        go_region_held3 (fun w' => BkS W1 X (.slice (some ⟨g, o, none⟩) N c) g (o + i * 4) x.kind (bs x.text) (.slice pk2 x.keys.length ck2) (.slice px x.items.length cx) w') ((first | exact BkS.drew (by assumption) | exact BkS.step (by assumption) (by assumption) | assumption))
          ((first
            | (go_at_call 61; (refine (HBl.out _).mono ?_); rintro e w6 ⟨rfl, hb6⟩)
            | (go_at_call 62; (refine (HBe.out _ (BkS.bel (by assumption : BkS W1 X (.slice (some ⟨g, o, none⟩) N c) g (o + i * 4) x.kind (bs x.text) (.slice pk2 x.keys.length ck2) (.slice px x.items.length cx) _))).mono ?_); rintro e w6 ⟨rfl, hb6⟩)))
        all_goals
          have HL6 := Lib.hid (by assumption : BkS W1 X (.slice (some ⟨g, o, none⟩) N c) g (o + i * 4) x.kind (bs x.text) (.slice pk2 x.keys.length ck2) (.slice px x.items.length cx) w6)
          have HB6 : Hid (Below W1.heap.size W1 w6) := HL6.out.2
          go_wp2_with fail
          go_roundw
          case rel => exact ⟨i + 1, A ++ L ++ H ++ P, by rw [← bs_append, ← bs_append, ← bs_append], by go_num, by omega, hnl, Lib.hid HH1.out.symm, by first | exact HB6 | exact Lib.hid (below_drewN HB6.out _)⟩
          case measure => simp [RowKit.intOf]; omega
      · have d6 : (t.kind == 6) = false := beq_eq_false_iff_ne.2 h6
        have HH8 := Lib.hid (HH6.out h6)
        clear h6
        go_upto_if 19 with fail
        go_cut [7, 8, 9] (fun s7 s8 s9 wx => s7 = .string (bs H) ∧ Hid (Below W1.heap.size W1 wx))
        case first =>
          go_wp2_with fail
          go_meet
          exact ⟨by rw [HH8.out]; rfl, HBr⟩
        case rest =>
        obtain ⟨rfl, HB2⟩ := hcut
        clear b0 b1 b2 b3
        obtain ⟨b0, b1, b2, b3⟩ := HXC.out _ HB2.out
        have HS0 : BkS W1 X (.slice (some ⟨g, o, none⟩) N c) g (o + i * 4) x.kind (bs x.text) (.slice pk2 x.keys.length ck2) (.slice px x.items.length cx) wc := ⟨⟨b3, (HB2.out.cell (p := ⟨g, o + i * 4, none⟩) HGG.out).trans HNN.out.1, (HB2.out.cell (p := ⟨g, o + i * 4 + 1, none⟩) HGG.out).trans HNN.out.2.1, (HB2.out.cell (p := ⟨g, o + i * 4 + 2, none⟩) HGG.out).trans HNN.out.2.2.1, (HB2.out.cell (p := ⟨g, o + i * 4 + 3, none⟩) HGG.out).trans HNN.out.2.2.2⟩, HB2⟩
        clear b0 b1 b2 b3
        clear hLl
        have q1 : ¬ 9223372036854775807 < A.length + L.length := by omega
        have q2 : ¬ 9223372036854775807 < A.length + L.length + H.length := by omega
        have q3 : ¬ 9223372036854775807 < A.length + L.length + H.length + P.length := by omega
        have q4 : ¬ 9223372036854775807 < (bs A).size + (bs L).size := by omega
        have q5 : ¬ 9223372036854775807 < (bs A).size + (bs L).size + (bs H).size := by omega
        have q6 : ¬ 9223372036854775807 < (bs A).size + (bs L).size + (bs H).size + (bs P).size := by omega
        go_upto_region 9 with fail
        go_region_held3 (fun w' => BkS W1 X (.slice (some ⟨g, o, none⟩) N c) g (o + i * 4) x.kind (bs x.text) (.slice pk2 x.keys.length ck2) (.slice px x.items.length cx) w') ((first | exact BkS.drew (by assumption) | exact BkS.step (by assumption) (by assumption) | assumption))
          ((first
            | (go_at_call 61; (refine (HBl.out _).mono ?_); rintro e w6 ⟨rfl, hb6⟩)
            | (go_at_call 62; (refine (HBe.out _ (BkS.bel (by assumption : BkS W1 X (.slice (some ⟨g, o, none⟩) N c) g (o + i * 4) x.kind (bs x.text) (.slice pk2 x.keys.length ck2) (.slice px x.items.length cx) _))).mono ?_); rintro e w6 ⟨rfl, hb6⟩)))
        all_goals
          have HL6 := Lib.hid (by assumption : BkS W1 X (.slice (some ⟨g, o, none⟩) N c) g (o + i * 4) x.kind (bs x.text) (.slice pk2 x.keys.length ck2) (.slice px x.items.length cx) w6)
          have HB6 : Hid (Below W1.heap.size W1 w6) := HL6.out.2
          go_wp2_with fail
          go_roundw
          case rel => exact ⟨i + 1, A ++ L ++ H ++ P, by rw [← bs_append, ← bs_append, ← bs_append], by go_num, by omega, hnl, Lib.hid HH1.out.symm, by first | exact HB6 | exact Lib.hid (below_drewN HB6.out _)⟩
          case measure => simp [RowKit.intOf]; omega
    · have dk : decide ((i : Int) < (N : Int)) = false := decide_eq_false (by omega)
      obtain rfl : i = N := by omega
      obtain rfl : A = Z := by rw [HA.out]; exact HTE.out
      have HB5 := Lib.hid (below_of_new HB1.out HBr.out)
      go_wp2_with fail
      go_ret
      exact ⟨rfl, by first | exact HB5.out | (rw [← hX]; exact HB5.out)⟩
end Go.Proofs.YtnnlpkbopeiefaaGreatDoor
/-! The reference's Lines, Block, Member, Item, Print. Printed by mktk.py. -/
namespace Go.Proofs.YtnnlpkbopeiefaaGreatDoor
set_option linter.unusedSimpArgs false
set_option linter.unusedVariables false
open Go.RowKit
open Go.Lib hiding intOf
mutual
theorem rblock_any : ∀ n, RBk n
  | 0 => fun _ _ _ _ _ h => h.elim
  | n + 1 => rblock_step n (rbehind_any n)
theorem rbehind_any : ∀ n, RBh n
  | 0 => fun _ _ _ _ _ h => h.elim
  | n + 1 => rbehind_of (n + 1) (rblock_step n (rbehind_any n))
end
theorem write_ok {t : VT} (h : RightB t = true) : (writeY t).2 = 0 := by
  have hn := (every_node (right_every h)).1
  unfold rnodeB nodeB nodeF at hn
  simp only [Bool.and_eq_true, decide_eq_true_eq] at hn
  have h2 := hn.2
  unfold writeY
  rw [if_pos h]
  by_cases h4 : t.kind = 4
  · rw [if_pos h4]
    rw [if_neg (by omega), if_neg (by omega)] at h2
    split at h2
    · cases h2
    · simp [h4] at h2
      split
      · rfl
      · unfold quotedY
        split
        · rename_i hc
          exact clean_sqw hc
        · unfold quoteL
          rw [if_pos h2]
  · rw [if_neg h4]
theorem print_eq (t : VT) : printP t = if RightB t then (if 0 < t.items.length then (blockL t 0, 0) else ((writeY t).1 ++ [10], 0)) else ([], 1) := by
  unfold printP linesB blockP
  by_cases h : RightB t = true
  · have hf : fitsB t 0 = true := by unfold fitsB; rw [h]; simp
    have hl : linesB t = decide (0 < t.items.length) := by unfold linesB; rw [h, Bool.true_and]
    rw [if_pos h, h, Bool.true_and, hf, hl, Bool.true_and]
    by_cases h0 : 0 < t.items.length
    · rw [decide_eq_true h0, if_pos rfl, if_pos rfl, if_pos h0]; rfl
    · rw [decide_eq_false h0, if_neg (by simp), if_neg h0, if_pos (write_ok h)]
  · have h' : RightB t = false := by simpa using h
    rw [if_neg h, h', Bool.false_and, if_neg (by simp)]
    have : writeY t = ([], 1) := by unfold writeY; rw [h']; rfl
    rw [this]
    rfl
abbrev BxS (W1 : World) (X : Nat) (k : Int) (s : ByteArray) (kv iv : Value) (w : World) : Prop :=
  (w.cell? ⟨X, 0, none⟩ = some (.int .i64 k) ∧ w.cell? ⟨X, 1, none⟩ = some (.string s) ∧ w.cell? ⟨X, 2, none⟩ = some kv ∧ w.cell? ⟨X, 3, none⟩ = some iv) ∧ Hid (Below W1.heap.size W1 w)
theorem BxS.step {W1 : World} {X : Nat} {k : Int} {s : ByteArray} {kv iv : Value} {w w' : World} (h : BxS W1 X k s kv iv w) (hb : Below w.heap.size w w') : BxS W1 X k s kv iv w' := by
  obtain ⟨⟨h1, h2, h3, h4⟩, h5⟩ := h
  exact ⟨⟨by rw [hb.cell (p := ⟨X, 0, none⟩) (cell_lt h1)]; exact h1, by rw [hb.cell (p := ⟨X, 1, none⟩) (cell_lt h2)]; exact h2, by rw [hb.cell (p := ⟨X, 2, none⟩) (cell_lt h3)]; exact h3, by rw [hb.cell (p := ⟨X, 3, none⟩) (cell_lt h4)]; exact h4⟩, Lib.hid (below_of_new h5.out hb)⟩
theorem BxS.drew {W1 : World} {X : Nat} {k : Int} {s : ByteArray} {kv iv : Value} {w : World} (h : BxS W1 X k s kv iv w) : BxS W1 X k s kv iv w.drew := h.step (Below.refl _ _).drew
theorem BxS.bel {W1 : World} {X : Nat} {k : Int} {s : ByteArray} {kv iv : Value} {w : World} (h : BxS W1 X k s kv iv w) : Below W1.heap.size W1 w := h.2.out
set_option maxRecDepth 100000 in
set_option maxHeartbeats 1000000 in
theorem rfits_any (n : Nat) (t : VT) (kv iv : Value) (ind : Int) (w : World) (hn : VD w n t kv iv) (hbk : t.bulk ≤ 1073741824) (hV : YVar w) :
    Calls Tryz.prog 60 #[vv t kv iv, .int .i64 ind] w fun e w' => e = .returned (.bool (fitsB t ind)) ∧ Below w.heap.size w w' := by
  have h := hn.tight
  clear hn
  obtain ⟨pk, ck, p, c, rfl, rfl⟩ := h.form
  obtain ⟨X, hX⟩ : ∃ X, w.heap.size = X := ⟨_, rfl⟩
  obtain ⟨W1, hW1⟩ : ∃ W, w.alloc (.cells #[.int .i64 t.kind, .string (bs t.text), .slice pk t.keys.length ck, .slice p t.items.length c] 25) = W := ⟨_, rfl⟩
  have HB1 : Hid (Below w.heap.size w W1) := Lib.hid (by rw [← hW1]; exact below_alloc1 _ _)
  have HXB : Hid (VBox W1 X t (.slice pk t.keys.length ck) (.slice p t.items.length c)) := Lib.hid (by rw [← hW1, ← hX]; exact VBox.new w t _ _)
  have HVD := Lib.hid (h.keep HB1.out)
  have HV := Lib.hid (hV.keep HB1.out)
  have HC1 := Lib.hid (rright_any t.depth t _ _ W1 HVD.out hbk HV.out.1)
  unfold vv at HC1 ⊢
  unfold fitsB
  obtain ⟨y, hy⟩ : ∃ y, RightB t = y := ⟨_, rfl⟩
  rw [hy] at HC1 ⊢
  obtain ⟨Z, hZ⟩ : ∃ Z, (y && decide (0 ≤ ind) && decide (ind ≤ 256)) = Z := ⟨_, rfl⟩
  rw [hZ]
  have HZ := Lib.hid hZ
  clear h hV hy hZ
  go_enter Tryz.func60, Tryz.ntmps60
  go_upto_region 1 with fail
  clear hW1
  obtain ⟨b0, b1, b2, b3⟩ := HXB.out.cells
  go_wp2_with fail
  refine HC1.out.mono ?_
  rintro e w2 ⟨rfl, hb2⟩
  have HB2 := Lib.hid (below_of_new HB1.out hb2)
  clear hb2 b0 b1 b2 b3
  cases y with
  | false =>
    obtain rfl : Z = false := by rw [← HZ.out]; simp
    go_wp2_with fail
    go_ret
    exact ⟨rfl, by first | exact HB2.out | (rw [← hX]; exact HB2.out)⟩
  | true =>
    by_cases h0 : 0 ≤ ind
    · have d0 : decide (0 ≤ ind) = true := decide_eq_true h0
      by_cases h1 : ind ≤ 256
      · have d1 : decide (ind ≤ 256) = true := decide_eq_true h1
        obtain rfl : Z = true := by rw [← HZ.out, d0, d1]; rfl
        go_wp2_with fail
        go_ret
        exact ⟨rfl, by first | exact HB2.out | (rw [← hX]; exact HB2.out)⟩
      · have d1 : decide (ind ≤ 256) = false := decide_eq_false h1
        obtain rfl : Z = false := by rw [← HZ.out, d0, d1]; rfl
        go_wp2_with fail
        go_ret
        exact ⟨rfl, by first | exact HB2.out | (rw [← hX]; exact HB2.out)⟩
    · have d0 : decide (0 ≤ ind) = false := decide_eq_false h0
      obtain rfl : Z = false := by rw [← HZ.out, d0]; simp
      go_wp2_with fail
      go_ret
      exact ⟨rfl, by first | exact HB2.out | (rw [← hX]; exact HB2.out)⟩
set_option maxRecDepth 100000 in
set_option maxHeartbeats 1000000 in
theorem rlines_any (n : Nat) (t : VT) (kv iv : Value) (w : World) (hn : VD w n t kv iv) (hbk : t.bulk ≤ 1073741824) (hV : YVar w) :
    Calls Tryz.prog 26 #[vv t kv iv] w fun e w' => e = .returned (.bool (linesB t)) ∧ Below w.heap.size w w' := by
  have h := hn.tight
  clear hn
  obtain ⟨pk, ck, p, c, rfl, rfl⟩ := h.form
  obtain ⟨X, hX⟩ : ∃ X, w.heap.size = X := ⟨_, rfl⟩
  obtain ⟨W1, hW1⟩ : ∃ W, w.alloc (.cells #[.int .i64 t.kind, .string (bs t.text), .slice pk t.keys.length ck, .slice p t.items.length c] 25) = W := ⟨_, rfl⟩
  have HB1 : Hid (Below w.heap.size w W1) := Lib.hid (by rw [← hW1]; exact below_alloc1 _ _)
  have HXB : Hid (VBox W1 X t (.slice pk t.keys.length ck) (.slice p t.items.length c)) := Lib.hid (by rw [← hW1, ← hX]; exact VBox.new w t _ _)
  have HVD := Lib.hid (h.keep HB1.out)
  have HV := Lib.hid (hV.keep HB1.out)
  have HC1 := Lib.hid (rright_any t.depth t _ _ W1 HVD.out hbk HV.out.1)
  unfold vv at HC1 ⊢
  unfold linesB
  obtain ⟨y, hy⟩ : ∃ y, RightB t = y := ⟨_, rfl⟩
  rw [hy] at HC1 ⊢
  obtain ⟨N, hN⟩ : ∃ N, t.items.length = N := ⟨_, rfl⟩
  rw [hN] at hW1 HXB HC1 ⊢
  obtain ⟨Z, hZ⟩ : ∃ Z, (y && decide (0 < N)) = Z := ⟨_, rfl⟩
  rw [hZ]
  have HZ := Lib.hid hZ
  clear h hV hy hZ hN HVD
  go_enter Tryz.func26, Tryz.ntmps26
  go_upto_region 1 with fail
  clear hW1
  obtain ⟨b0, b1, b2, b3⟩ := HXB.out.cells
  go_wp2_with fail
  refine HC1.out.mono ?_
  rintro e w2 ⟨rfl, hb2⟩
  have HB2 := Lib.hid hb2
  clear hb2 b0 b1 b2 b3
  obtain ⟨b0, b1, b2, b3⟩ := (HXB.out.keep HB2.out).cells
  have HB3 := Lib.hid (below_of_new HB1.out HB2.out)
  cases y with
  | false =>
    obtain rfl : Z = false := by rw [← HZ.out]; simp
    go_wp2_with fail
    go_ret
    exact ⟨rfl, by first | exact HB3.out | (rw [← hX]; exact HB3.out)⟩
  | true =>
    by_cases h0 : 0 < N
    · have d0 : decide ((0 : Int) < (N : Int)) = true := decide_eq_true (by omega)
      obtain rfl : Z = true := by rw [← HZ.out, decide_eq_true h0]; rfl
      go_wp2_with fail
      go_ret
      exact ⟨rfl, by first | exact HB3.out | (rw [← hX]; exact HB3.out)⟩
    · have d0 : decide ((0 : Int) < (N : Int)) = false := decide_eq_false (by omega)
      obtain rfl : Z = false := by rw [← HZ.out, decide_eq_false h0]; rfl
      obtain rfl : N = 0 := by omega
      go_wp2_with fail
      go_ret
      exact ⟨rfl, by first | exact HB3.out | (rw [← hX]; exact HB3.out)⟩
set_option maxRecDepth 100000 in
set_option maxHeartbeats 1000000 in
theorem rBlock_any (n : Nat) (t : VT) (kv iv : Value) (ind : Int) (w : World) (hn : VD w n t kv iv) (hbk : t.bulk ≤ 2000000) (hV : YVar w) :
    Calls Tryz.prog 23 #[vv t kv iv, .int .i64 ind] w fun e w' => e = QuotedE (blockP t ind) ∧ Below w.heap.size w w' := by
  have h := hn.tight
  clear hn
  obtain ⟨pk, ck, p, c, rfl, rfl⟩ := h.form
  obtain ⟨X, hX⟩ : ∃ X, w.heap.size = X := ⟨_, rfl⟩
  obtain ⟨W1, hW1⟩ : ∃ W, w.alloc (.cells #[.int .i64 t.kind, .string (bs t.text), .slice pk t.keys.length ck, .slice p t.items.length c] 25) = W := ⟨_, rfl⟩
  have HB1 : Hid (Below w.heap.size w W1) := Lib.hid (by rw [← hW1]; exact below_alloc1 _ _)
  have HXB : Hid (VBox W1 X t (.slice pk t.keys.length ck) (.slice p t.items.length c)) := Lib.hid (by rw [← hW1, ← hX]; exact VBox.new w t _ _)
  have HVD := Lib.hid (h.keep HB1.out)
  have HV := Lib.hid (hV.keep HB1.out)
  have HC1 := Lib.hid (rfits_any t.depth t _ _ ind W1 HVD.out (by omega) HV.out)
  have HC2 : Hid (fitsB t ind = true → ∀ w', Below W1.heap.size W1 w' → Calls Tryz.prog 59 #[vv t (.slice pk t.keys.length ck) (.slice p t.items.length c), .int .i64 ind] w' fun e w2 => e = .returned (.string (bs (blockL t ind.toNat))) ∧ Below w'.heap.size w' w2) := Lib.hid (fun hf w' hb => by
    unfold fitsB at hf
    simp only [Bool.and_eq_true, decide_eq_true_eq] at hf
    have hd := right_depth hf.1.1
    have := rblock_any t.depth t _ _ w' ind.toNat (HVD.out.keep hb) hbk (by omega) (right_every hf.1.1) (HV.out.keep hb)
    rw [show ((ind.toNat : Nat) : Int) = ind by omega] at this
    exact this)
  have hbp : blockP t ind = if fitsB t ind && decide (0 < t.items.length) then (blockL t ind.toNat, 0) else ([], 1) := by
    unfold blockP
    by_cases hf : fitsB t ind = true
    · have hr : RightB t = true := by unfold fitsB at hf; simp only [Bool.and_eq_true] at hf; exact hf.1.1
      unfold linesB
      rw [hr, Bool.true_and]
    · have hf' : fitsB t ind = false := by simpa using hf
      rw [hf', Bool.false_and, Bool.false_and]
  rw [hbp]
  unfold vv at HC1 HC2 ⊢
  unfold QuotedE
  obtain ⟨y, hy⟩ : ∃ y, fitsB t ind = y := ⟨_, rfl⟩
  rw [hy] at HC1 HC2 ⊢
  obtain ⟨N, hN⟩ : ∃ N, t.items.length = N := ⟨_, rfl⟩
  rw [hN] at hW1 HXB HC1 HC2 ⊢
  obtain ⟨C, hC⟩ : ∃ C, blockL t ind.toNat = C := ⟨_, rfl⟩
  rw [hC] at HC2 ⊢
  clear h hV hy hN HVD hbp hC
  cases y with
  | false =>
    rw [Bool.false_and, if_neg (by simp)]
    go_enter Tryz.func23, Tryz.ntmps23
    go_upto_region 1 with fail
    clear hW1
    obtain ⟨b0, b1, b2, b3⟩ := HXB.out.cells
    go_wp2_with fail
    refine HC1.out.mono ?_
    rintro e w2 ⟨rfl, hb2⟩
    have HB2 := Lib.hid (below_of_new HB1.out hb2)
    clear hb2 b0 b1 b2 b3
    go_wp2_with fail
    go_ret2
    exact ⟨rfl, by first | exact HB2.out | (rw [← hX]; exact HB2.out)⟩
  | true =>
    have HC3 := Lib.hid (HC2.out rfl)
    rw [Bool.true_and]
    by_cases h0 : 0 < N
    · have d0 : ((N : Int) == 0) = false := beq_eq_false_iff_ne.2 (by omega)
      rw [decide_eq_true h0, if_pos rfl]
      go_enter Tryz.func23, Tryz.ntmps23
      go_upto_region 1 with fail
      clear hW1
      obtain ⟨b0, b1, b2, b3⟩ := HXB.out.cells
      go_wp2_with fail
      refine HC1.out.mono ?_
      rintro e w2 ⟨rfl, hb2⟩
      have HB2 := Lib.hid hb2
      clear hb2 b0 b1 b2 b3
      obtain ⟨b0, b1, b2, b3⟩ := (HXB.out.keep HB2.out).cells
      go_wp2_with fail
      refine (HC3.out _ HB2.out).mono ?_
      rintro e w3 ⟨rfl, hb3⟩
      have HB3 := Lib.hid (below_of_new HB1.out (below_of_new HB2.out hb3))
      clear hb3 b0 b1 b2 b3
      go_wp2_with fail
      go_ret2
      exact ⟨rfl, by first | exact HB3.out | (rw [← hX]; exact HB3.out)⟩
    · obtain rfl : N = 0 := by omega
      rw [if_neg (by simp)]
      go_enter Tryz.func23, Tryz.ntmps23
      go_upto_region 1 with fail
      clear hW1
      obtain ⟨b0, b1, b2, b3⟩ := HXB.out.cells
      go_wp2_with fail
      refine HC1.out.mono ?_
      rintro e w2 ⟨rfl, hb2⟩
      have HB2 := Lib.hid hb2
      clear hb2 b0 b1 b2 b3
      obtain ⟨b0, b1, b2, b3⟩ := (HXB.out.keep HB2.out).cells
      have HB3 := Lib.hid (below_of_new HB1.out HB2.out)
      go_wp2_with fail
      go_ret2
      exact ⟨rfl, by first | exact HB3.out | (rw [← hX]; exact HB3.out)⟩
set_option maxRecDepth 100000 in
set_option maxHeartbeats 1000000 in
theorem rPrint_any (n : Nat) (t : VT) (kv iv : Value) (w : World) (hn : VD w n t kv iv) (hbk : t.bulk ≤ 2000000) (hV : YVar w) :
    Calls Tryz.prog 22 #[vv t kv iv] w fun e w' => e = QuotedE (printP t) ∧ Below w.heap.size w w' := by
  have h := hn.tight
  clear hn
  obtain ⟨pk, ck, p, c, rfl, rfl⟩ := h.form
  obtain ⟨X, hX⟩ : ∃ X, w.heap.size = X := ⟨_, rfl⟩
  obtain ⟨W1, hW1⟩ : ∃ W, w.alloc (.cells #[.int .i64 t.kind, .string (bs t.text), .slice pk t.keys.length ck, .slice p t.items.length c] 25) = W := ⟨_, rfl⟩
  have HB1 : Hid (Below w.heap.size w W1) := Lib.hid (by rw [← hW1]; exact below_alloc1 _ _)
  have HXB : Hid (VBox W1 X t (.slice pk t.keys.length ck) (.slice p t.items.length c)) := Lib.hid (by rw [← hW1, ← hX]; exact VBox.new w t _ _)
  have HVD := Lib.hid (h.keep HB1.out)
  have HV := Lib.hid (hV.keep HB1.out)
  have HC1 := Lib.hid (rright_any t.depth t _ _ W1 HVD.out (by omega) HV.out.1)
  have HC2 : Hid (RightB t = true → ∀ w', Below W1.heap.size W1 w' → Calls Tryz.prog 59 #[vv t (.slice pk t.keys.length ck) (.slice p t.items.length c), .int .i64 0] w' fun e w2 => e = .returned (.string (bs (blockL t 0))) ∧ Below w'.heap.size w' w2) := Lib.hid (fun hr w' hb => by
    have hd := right_depth hr
    exact rblock_any t.depth t _ _ w' 0 (HVD.out.keep hb) hbk (by omega) (right_every hr) (HV.out.keep hb))
  have HC3 : Hid (∀ w', Below W1.heap.size W1 w' → Calls Tryz.prog 32 #[vv t (.slice pk t.keys.length ck) (.slice p t.items.length c)] w' fun e w2 => e = QuotedE (writeY t) ∧ Below w'.heap.size w' w2) := Lib.hid (fun w' hb => rwrite_any t.depth t _ _ w' (HVD.out.keep hb) (by omega) (HV.out.keep hb))
  rw [print_eq]
  have hwl := writeY_len t
  unfold vv at HC1 HC2 HC3 ⊢
  unfold QuotedE at HC3 ⊢
  obtain ⟨y, hy⟩ : ∃ y, RightB t = y := ⟨_, rfl⟩
  rw [hy] at HC1 HC2 ⊢
  obtain ⟨N, hN⟩ : ∃ N, t.items.length = N := ⟨_, rfl⟩
  rw [hN] at hW1 HXB HC1 HC2 HC3 ⊢
  obtain ⟨C, hC⟩ : ∃ C, blockL t 0 = C := ⟨_, rfl⟩
  rw [hC] at HC2 ⊢
  obtain ⟨⟨A, er⟩, hA⟩ : ∃ C, writeY t = C := ⟨_, rfl⟩
  rw [hA] at HC3 hwl ⊢
  have hAl : A.length ≤ 700 * t.bulk + 172 := hwl
  have slA := bs_size A
  simp only [] at HC3 ⊢
  clear h hV hy hN HVD hC hA hwl
  cases y with
  | false =>
    rw [if_neg (by simp)]
    go_enter Tryz.func22, Tryz.ntmps22
    go_upto_region 1 with fail
    clear hW1
    obtain ⟨b0, b1, b2, b3⟩ := HXB.out.cells
    go_wp2_with fail
    refine HC1.out.mono ?_
    rintro e w2 ⟨rfl, hb2⟩
    have HB2 := Lib.hid (below_of_new HB1.out hb2)
    clear hb2 b0 b1 b2 b3
    go_wp2_with fail
    go_ret2
    exact ⟨rfl, by first | exact HB2.out | (rw [← hX]; exact HB2.out)⟩
  | true =>
    have HC4 := Lib.hid (HC2.out rfl)
    rw [if_pos rfl]
    by_cases h0 : 0 < N
    · have d0 : decide ((0 : Int) < (N : Int)) = true := decide_eq_true (by omega)
      rw [if_pos h0]
      go_enter Tryz.func22, Tryz.ntmps22
      go_upto_region 1 with fail
      clear hW1
      obtain ⟨b0, b1, b2, b3⟩ := HXB.out.cells
      go_wp2_with fail
      refine HC1.out.mono ?_
      rintro e w2 ⟨rfl, hb2⟩
      have HB2 := Lib.hid hb2
      clear hb2 b0 b1 b2 b3
      obtain ⟨b0, b1, b2, b3⟩ := (HXB.out.keep HB2.out).cells
      go_wp2_with fail
      refine (HC4.out _ HB2.out).mono ?_
      rintro e w3 ⟨rfl, hb3⟩
      have HB3 := Lib.hid (below_of_new HB1.out (below_of_new HB2.out hb3))
      clear hb3 b0 b1 b2 b3
      go_wp2_with fail
      go_ret2
      exact ⟨rfl, by first | exact HB3.out | (rw [← hX]; exact HB3.out)⟩
    · obtain rfl : N = 0 := by omega
      rw [if_neg h0]
      go_enter Tryz.func22, Tryz.ntmps22
      go_upto_region 1 with fail
      clear hW1
      obtain ⟨b0, b1, b2, b3⟩ := HXB.out.cells
      go_wp2_with fail
      refine HC1.out.mono ?_
      rintro e w2 ⟨rfl, hb2⟩
      have HB2 := Lib.hid hb2
      clear hb2 b0 b1 b2 b3
      obtain ⟨b0, b1, b2, b3⟩ := (HXB.out.keep HB2.out).cells
      go_wp2_with fail
      refine (HC3.out _ HB2.out).mono ?_
      rintro e w3 ⟨rfl, hb3⟩
      have HB3 := Lib.hid (below_of_new HB1.out (below_of_new HB2.out hb3))
      clear hb3 b0 b1 b2 b3
      go_wp2_with fail
      go_ret2
      exact ⟨by rw [← bs_append]; rfl, by first | exact HB3.out | (rw [← hX]; exact HB3.out)⟩
set_option maxRecDepth 100000 in
set_option maxHeartbeats 1000000 in
theorem rItem_any (n : Nat) (t : VT) (kv iv : Value) (ind : Int) (w : World) (hn : VD w n t kv iv) (hbk : t.bulk ≤ 2000000) (hV : YVar w) :
    Calls Tryz.prog 25 #[vv t kv iv, .int .i64 ind] w fun e w' => e = QuotedE (itemP t ind) ∧ Below w.heap.size w w' := by
  have h := hn.tight
  clear hn
  obtain ⟨pk, ck, p, c, rfl, rfl⟩ := h.form
  obtain ⟨X, hX⟩ : ∃ X, w.heap.size = X := ⟨_, rfl⟩
  obtain ⟨W1, hW1⟩ : ∃ W, w.alloc (.cells #[.int .i64 t.kind, .string (bs t.text), .slice pk t.keys.length ck, .slice p t.items.length c] 25) = W := ⟨_, rfl⟩
  have HB1 : Hid (Below w.heap.size w W1) := Lib.hid (by rw [← hW1]; exact below_alloc1 _ _)
  have HXB : Hid (VBox W1 X t (.slice pk t.keys.length ck) (.slice p t.items.length c)) := Lib.hid (by rw [← hW1, ← hX]; exact VBox.new w t _ _)
  have HVD := Lib.hid (h.keep HB1.out)
  have HV := Lib.hid (hV.keep HB1.out)
  have HC1 := Lib.hid (rfits_any t.depth t _ _ ind W1 HVD.out (by omega) HV.out)
  have HC2 : Hid (fitsB t ind = true → ∀ w', Below W1.heap.size W1 w' → Calls Tryz.prog 62 #[vv t (.slice pk t.keys.length ck) (.slice p t.items.length c), .int .i64 ind] w' fun e w2 => e = .returned (.string (bs (ybehL t ind.toNat))) ∧ Below w'.heap.size w' w2) := Lib.hid (fun hf w' hb => by
    unfold fitsB at hf
    simp only [Bool.and_eq_true, decide_eq_true_eq] at hf
    have hd := right_depth hf.1.1
    have := rbehind_any t.depth t _ _ w' ind.toNat (HVD.out.keep hb) hbk (by omega) (right_every hf.1.1) (HV.out.keep hb)
    rw [show ((ind.toNat : Nat) : Int) = ind by omega] at this
    exact this)
  have HC3 : Hid (fitsB t ind = true → (∀ w', Calls Tryz.prog 61 #[.int .i64 ind] w' fun e w2 => e = .returned (.string (bs (List.replicate ind.toNat 32))) ∧ Below w'.heap.size w' w2) ∧ (List.replicate ind.toNat (32 : UInt8)).length ≤ 256 ∧ (ybehL t ind.toNat).length ≤ 2100 * t.bulk) := Lib.hid (fun hf => by
    unfold fitsB at hf
    simp only [Bool.and_eq_true, decide_eq_true_eq] at hf
    have hd := right_depth hf.1.1
    have hyl := ybeh_len t ind.toNat (by omega)
    refine ⟨fun w' => ?_, by rw [List.length_replicate]; omega, by omega⟩
    have := rblanks_any ind.toNat w' (by omega)
    rw [show ((ind.toNat : Nat) : Int) = ind by omega] at this
    exact this)
  unfold vv at HC1 HC2 ⊢
  unfold QuotedE itemP
  obtain ⟨y, hy⟩ : ∃ y, fitsB t ind = y := ⟨_, rfl⟩
  rw [hy] at HC1 HC2 HC3 ⊢
  obtain ⟨P, hP⟩ : ∃ C, ybehL t ind.toNat = C := ⟨_, rfl⟩
  obtain ⟨L, hL⟩ : ∃ C, List.replicate ind.toNat (32 : UInt8) = C := ⟨_, rfl⟩
  rw [hP] at HC2 HC3 ⊢
  rw [hL] at HC3 ⊢
  clear h hV hy HVD hP hL
  cases y with
  | false =>
    rw [if_neg (by simp)]
    go_enter Tryz.func25, Tryz.ntmps25
    go_upto_region 1 with fail
    clear hW1
    obtain ⟨b0, b1, b2, b3⟩ := HXB.out.cells
    go_wp2_with fail
    refine HC1.out.mono ?_
    rintro e w2 ⟨rfl, hb2⟩
    have HB2 := Lib.hid (below_of_new HB1.out hb2)
    clear hb2 b0 b1 b2 b3
    go_wp2_with fail
    go_ret2
    exact ⟨rfl, by first | exact HB2.out | (rw [← hX]; exact HB2.out)⟩
  | true =>
    have HBe := Lib.hid (HC2.out rfl)
    obtain ⟨hbl, hLl, hPl⟩ := HC3.out rfl
    have HBl := Lib.hid hbl
    rw [if_pos rfl]
    simp only []
    have slL := bs_size L
    have slP := bs_size P
    clear hbl HC2 HC3
    go_enter Tryz.func25, Tryz.ntmps25
    go_upto_region 1 with fail
    clear hW1
    obtain ⟨b0, b1, b2, b3⟩ := HXB.out.cells
    go_wp2_with fail
    refine HC1.out.mono ?_
    rintro e w2 ⟨rfl, hb2⟩
    have HB2 := Lib.hid hb2
    clear hb2 b0 b1 b2 b3
    have HS0 : BxS W1 X t.kind (bs t.text) (.slice pk t.keys.length ck) (.slice p t.items.length c) w2 := ⟨(HXB.out.keep HB2.out).cells, HB2⟩
    have q1 : ¬ 9223372036854775807 < L.length + 1 := by omega
    have q2 : ¬ 9223372036854775807 < L.length + 1 + P.length := by omega
    have q3 : ¬ 9223372036854775806 < L.length := by omega
    go_upto_region 4 with fail
    go_region_held3 (fun w' => BxS W1 X t.kind (bs t.text) (.slice pk t.keys.length ck) (.slice p t.items.length c) w') ((first | exact BxS.drew (by assumption) | exact BxS.step (by assumption) (by assumption) | assumption))
      ((first
        | (go_at_call 61; (refine (HBl.out _).mono ?_); rintro e w6 ⟨rfl, hb6⟩)
        | (go_at_call 62; (refine (HBe.out _ (BxS.bel (by assumption : BxS W1 X t.kind (bs t.text) (.slice pk t.keys.length ck) (.slice p t.items.length c) _))).mono ?_); rintro e w6 ⟨rfl, hb6⟩)))
    all_goals
      have HL6 := Lib.hid (by assumption : BxS W1 X t.kind (bs t.text) (.slice pk t.keys.length ck) (.slice p t.items.length c) w6)
      have HB6 : Hid (Below w.heap.size w w6) := Lib.hid (below_of_new HB1.out HL6.out.2.out)
      go_wp2_with fail
      go_ret2
      exact ⟨by rw [← bs_append, ← bs_append]; rfl, by first | exact HB6.out | (rw [← hX]; exact HB6.out)⟩
set_option maxRecDepth 100000 in
set_option maxHeartbeats 1000000 in
theorem rMember_any (key : Stp) (n : Nat) (t : VT) (kv iv : Value) (ind : Int) (w : World) (hn : VD w n t kv iv) (hbk : t.bulk ≤ 2000000) (hk : key.length ≤ 2000000) (hV : YVar w) :
    Calls Tryz.prog 24 #[.string (bs key), vv t kv iv, .int .i64 ind] w fun e w' => e = QuotedE (memberP key t ind) ∧ Below w.heap.size w w' := by
  have h := hn.tight
  clear hn
  obtain ⟨pk, ck, p, c, rfl, rfl⟩ := h.form
  obtain ⟨X, hX⟩ : ∃ X, w.heap.size = X := ⟨_, rfl⟩
  obtain ⟨W1, hW1⟩ : ∃ W, w.alloc (.cells #[.int .i64 t.kind, .string (bs t.text), .slice pk t.keys.length ck, .slice p t.items.length c] 25) = W := ⟨_, rfl⟩
  have HB1 : Hid (Below w.heap.size w W1) := Lib.hid (by rw [← hW1]; exact below_alloc1 _ _)
  have HXB : Hid (VBox W1 X t (.slice pk t.keys.length ck) (.slice p t.items.length c)) := Lib.hid (by rw [← hW1, ← hX]; exact VBox.new w t _ _)
  have HVD := Lib.hid (h.keep HB1.out)
  have HV := Lib.hid (hV.keep HB1.out)
  have HC1 := Lib.hid (rfits_any t.depth t _ _ ind W1 HVD.out (by omega) HV.out)
  have HCK : Hid (∀ w', Below W1.heap.size W1 w' → Calls Tryz.prog 34 #[.string (bs key)] w' fun e w2 => e = QuotedE (keyY key) ∧ Below w'.heap.size w' w2) := Lib.hid (fun w' hb => rwritekey_any key w' (by omega) (HV.out.keep hb))
  have hkl := keyY_len key
  have HC2 : Hid (fitsB t ind = true → ∀ w', Below W1.heap.size W1 w' → Calls Tryz.prog 62 #[vv t (.slice pk t.keys.length ck) (.slice p t.items.length c), .int .i64 ind] w' fun e w2 => e = .returned (.string (bs (ybehL t ind.toNat))) ∧ Below w'.heap.size w' w2) := Lib.hid (fun hf w' hb => by
    unfold fitsB at hf
    simp only [Bool.and_eq_true, decide_eq_true_eq] at hf
    have hd := right_depth hf.1.1
    have := rbehind_any t.depth t _ _ w' ind.toNat (HVD.out.keep hb) hbk (by omega) (right_every hf.1.1) (HV.out.keep hb)
    rw [show ((ind.toNat : Nat) : Int) = ind by omega] at this
    exact this)
  have HC3 : Hid (fitsB t ind = true → (∀ w', Calls Tryz.prog 61 #[.int .i64 ind] w' fun e w2 => e = .returned (.string (bs (List.replicate ind.toNat 32))) ∧ Below w'.heap.size w' w2) ∧ (List.replicate ind.toNat (32 : UInt8)).length ≤ 256 ∧ (ybehL t ind.toNat).length ≤ 2100 * t.bulk) := Lib.hid (fun hf => by
    unfold fitsB at hf
    simp only [Bool.and_eq_true, decide_eq_true_eq] at hf
    have hd := right_depth hf.1.1
    have hyl := ybeh_len t ind.toNat (by omega)
    refine ⟨fun w' => ?_, by rw [List.length_replicate]; omega, by omega⟩
    have := rblanks_any ind.toNat w' (by omega)
    rw [show ((ind.toNat : Nat) : Int) = ind by omega] at this
    exact this)
  unfold vv at HC1 HC2 ⊢
  unfold QuotedE at HCK ⊢
  unfold memberP
  obtain ⟨⟨A, er⟩, hA⟩ : ∃ Q, keyY key = Q := ⟨_, rfl⟩
  rw [hA] at HCK hkl ⊢
  have hAl : A.length ≤ 336 * key.length + 172 := hkl
  simp only [] at HCK ⊢
  obtain ⟨y, hy⟩ : ∃ y, fitsB t ind = y := ⟨_, rfl⟩
  rw [hy] at HC1 HC2 HC3 ⊢
  obtain ⟨P, hP⟩ : ∃ C, ybehL t ind.toNat = C := ⟨_, rfl⟩
  obtain ⟨L, hL⟩ : ∃ C, List.replicate ind.toNat (32 : UInt8) = C := ⟨_, rfl⟩
  rw [hP] at HC2 HC3 ⊢
  rw [hL] at HC3 ⊢
  clear h hV hy HVD hP hL hA hkl
  cases y with
  | false =>
    rw [Bool.false_and, if_neg (by simp)]
    go_enter Tryz.func24, Tryz.ntmps24
    go_upto_region 1 with fail
    clear hW1
    obtain ⟨b0, b1, b2, b3⟩ := HXB.out.cells
    go_wp2_with fail
    refine HC1.out.mono ?_
    rintro e w2 ⟨rfl, hb2⟩
    have HB2 := Lib.hid hb2
    clear hb2 b0 b1 b2 b3
    go_wp2_with fail
    refine (HCK.out _ HB2.out).mono ?_
    rintro e w3 ⟨rfl, hb3⟩
    have HB3 := Lib.hid (below_of_new HB1.out (below_of_new HB2.out hb3))
    clear hb3
    go_wp2_with fail
    go_ret2
    exact ⟨rfl, by first | exact HB3.out | (rw [← hX]; exact HB3.out)⟩
  | true =>
    rw [Bool.true_and]
    by_cases her : er = 0
    rotate_left
    · have d0 : (er == 0) = false := beq_eq_false_iff_ne.2 her
      have d1 : (er != 0) = true := bne_iff_ne.2 her
      rw [if_neg (by simp [her])]
      go_enter Tryz.func24, Tryz.ntmps24
      go_upto_region 1 with fail
      clear hW1
      obtain ⟨b0, b1, b2, b3⟩ := HXB.out.cells
      go_wp2_with fail
      refine HC1.out.mono ?_
      rintro e w2 ⟨rfl, hb2⟩
      have HB2 := Lib.hid hb2
      clear hb2 b0 b1 b2 b3
      go_wp2_with fail
      refine (HCK.out _ HB2.out).mono ?_
      rintro e w3 ⟨rfl, hb3⟩
      have HB3 := Lib.hid (below_of_new HB1.out (below_of_new HB2.out hb3))
      clear hb3
      go_wp2_with fail
      go_ret2
      exact ⟨rfl, by first | exact HB3.out | (rw [← hX]; exact HB3.out)⟩
    subst her
    rw [if_pos (by simp)]
    have HBe := Lib.hid (HC2.out rfl)
    obtain ⟨hbl, hLl, hPl⟩ := HC3.out rfl
    have HBl := Lib.hid hbl
    simp only []
    have slA := bs_size A
    have slL := bs_size L
    have slP := bs_size P
    clear hbl HC2 HC3
    go_enter Tryz.func24, Tryz.ntmps24
    go_upto_region 1 with fail
    clear hW1
    obtain ⟨b0, b1, b2, b3⟩ := HXB.out.cells
    go_wp2_with fail
    refine HC1.out.mono ?_
    rintro e w2 ⟨rfl, hb2⟩
    have HB2 := Lib.hid hb2
    clear hb2 b0 b1 b2 b3
    go_wp2_with fail
    refine (HCK.out _ HB2.out).mono ?_
    rintro e w3 ⟨rfl, hb3⟩
    have HB3 := Lib.hid (below_of_new HB2.out hb3)
    clear hb3
    have HS0 : BxS W1 X t.kind (bs t.text) (.slice pk t.keys.length ck) (.slice p t.items.length c) w3 := ⟨(HXB.out.keep HB3.out).cells, HB3⟩
    have q1 : ¬ 9223372036854775807 < L.length + A.length := by omega
    have q2 : ¬ 9223372036854775807 < L.length + A.length + 1 := by omega
    have q3 : ¬ 9223372036854775806 < L.length + A.length := by omega
    have q4 : ¬ 9223372036854775807 < L.length + A.length + 1 + P.length := by omega
    go_upto_region 5 with fail
    go_region_held3 (fun w' => BxS W1 X t.kind (bs t.text) (.slice pk t.keys.length ck) (.slice p t.items.length c) w') ((first | exact BxS.drew (by assumption) | exact BxS.step (by assumption) (by assumption) | assumption))
      ((first
        | (go_at_call 61; (refine (HBl.out _).mono ?_); rintro e w6 ⟨rfl, hb6⟩)
        | (go_at_call 62; (refine (HBe.out _ (BxS.bel (by assumption : BxS W1 X t.kind (bs t.text) (.slice pk t.keys.length ck) (.slice p t.items.length c) _))).mono ?_); rintro e w6 ⟨rfl, hb6⟩)))
    all_goals
      have HL6 := Lib.hid (by assumption : BxS W1 X t.kind (bs t.text) (.slice pk t.keys.length ck) (.slice p t.items.length c) w6)
      have HB6 : Hid (Below w.heap.size w w6) := Lib.hid (below_of_new HB1.out HL6.out.2.out)
      go_wp2_with fail
      go_ret2
      exact ⟨by rw [← List.append_assoc L A [58], ← bs_append, ← bs_append, ← bs_append]; rfl, by first | exact HB6.out | (rw [← hX]; exact HB6.out)⟩
end Go.Proofs.YtnnlpkbopeiefaaGreatDoor
