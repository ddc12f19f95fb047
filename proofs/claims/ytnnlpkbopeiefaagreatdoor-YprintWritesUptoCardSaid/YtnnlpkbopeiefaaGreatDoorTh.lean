import Derived.Test.YtnnlpkbopeiefaaGreatDoorTf
import Derived.Test.YtnnlpkbopeiefaaGreatDoorWe
import Derived.Test.YtnnlpkbopeiefaaGreatDoorYpM
/-! The reference's text of a value, Compact, Write, WriteKey. Printed by mkth.py. -/
namespace Go.Proofs.YtnnlpkbopeiefaaGreatDoor
set_option linter.unusedSimpArgs false
set_option linter.unusedVariables false
open Go.RowKit
open Go.Lib hiding intOf
theorem bulks_part (l : List VT) (i : Nat) : bulks (l.take i) ≤ bulks l := by
  have : bulks l = bulks (l.take i) + bulks (l.drop i) := by rw [← bulks_app, List.take_append_drop]
  omega
def sepL (i : Nat) : Stp := if i = 0 then [] else [44]
theorem sep_eq (i : Nat) (l : List VT) (h : i ≤ l.length) : (if true && (l.take i).isEmpty then ([] : Stp) else [44]) = sepL i := by
  unfold sepL
  cases i with
  | zero => rfl
  | succ i =>
    cases l with
    | nil => simp at h
    | cons x l => rfl
theorem items_next {l : List VT} {i : Nat} {x : VT} (hx : l[i]? = some x) : itemsL true (l.take (i + 1)) = itemsL true (l.take i) ++ (sepL i ++ compactL x) := by
  have hi := (List.getElem?_eq_some_iff.1 hx).1
  rw [take_one hx, itemsL_app, sep_eq i l (by omega)]
theorem members_next {l : List VT} {ks : List Stp} {i : Nat} {x : VT} {k : Stp} (hx : l[i]? = some x) (hk : ks[i]? = some k) : membersL true (l.take (i + 1)) ks = membersL true (l.take i) ks ++ (sepL i ++ ((quoteL k).1 ++ [58] ++ compactL x)) := by
  have hi := (List.getElem?_eq_some_iff.1 hx).1
  rw [take_one hx, membersL_app true _ x ks k (by rw [List.length_take, Nat.min_eq_left (by omega)]; exact hk), sep_eq i l (by omega)]
def RTx (n : Nat) : Prop := ∀ (t : VT) (kv iv : Value) (w : World) (lv : Nat), VD w n t kv iv → t.bulk ≤ 33554432 → lv + n ≤ 1099511627776 → everyB rnodeB t = true →
    Calls Tryz.prog 114 #[vv t kv iv, .int .i64 (-1), .int .i64 (lv : Int)] w fun e w' => e = .returned (.string (bs (compactL t))) ∧ Below w.heap.size w w'
set_option maxRecDepth 100000 in
set_option maxHeartbeats 1000000 in
theorem rtext_step (n : Nat) (IH : RTx n) : RTx (n + 1) := by
  intro t kv iv w lv h hbk hlv hev
  obtain ⟨m', hm, ⟨pk, ck, rfl, hck, hlies⟩, p, c, rfl, hlc, hit⟩ := h.parts
  obtain rfl : n = m' := by omega
  obtain ⟨X, hX⟩ : ∃ X, w.heap.size = X := ⟨_, rfl⟩
  obtain ⟨W1, hW1⟩ : ∃ W, w.alloc (.cells #[.int .i64 t.kind, .string (bs t.text), .slice pk t.keys.length ck, .slice p t.items.length c] 25) = W := ⟨_, rfl⟩
  have HB1 : Hid (Below w.heap.size w W1) := Lib.hid (by rw [← hW1]; exact below_alloc1 _ _)
  have HXB : Hid (VBox W1 X t (.slice pk t.keys.length ck) (.slice p t.items.length c)) := Lib.hid (by rw [← hW1, ← hX]; exact VBox.new w t _ _)
  have HIT := Lib.hid (hit.keep HB1.out)
  have HSL := Lib.hid (hlies.keep HB1.out)
  have hb0 : t.bulk = t.text.length + (totS t.keys + t.keys.length) + bulks t.items + 1 := by cases t; rw [VT.bulk]; rfl
  have hlen := len_le_bulks t.items
  have hcl := compact_len t
  obtain ⟨hrn, hel⟩ := every_node hev
  have HEL := Lib.hid (everyL_mem hel)
  have HKE := Lib.hid (fun h6 : t.kind = 6 => rnode_keys hrn h6)
  have HCE := Lib.hid (compactL_eq t)
  have hrk : t.kind = 1 ∨ t.kind = 2 ∨ t.kind = 3 ∨ t.kind = 4 ∨ t.kind = 5 ∨ t.kind = 6 := by
    unfold rnodeB nodeB nodeF at hrn
    simp only [Bool.and_eq_true, decide_eq_true_eq] at hrn
    have h2 := hrn.2
    by_cases h5 : t.kind = 5
    · omega
    · by_cases h6 : t.kind = 6
      · omega
      · rw [if_neg h5, if_neg h6] at h2
        split at h2
        · cases h2
        · split at h2
          · omega
          · split at h2
            · omega
            · split at h2
              · omega
              · split at h2
                · omega
                · cases h2
  obtain ⟨Z, hZ⟩ : ∃ Z, compactL t = Z := ⟨_, rfl⟩
  rw [hZ] at hcl HCE ⊢
  unfold vv
  obtain ⟨N, hN⟩ : ∃ N, t.items.length = N := ⟨_, rfl⟩
  obtain ⟨K, hK⟩ : ∃ N, t.keys.length = N := ⟨_, rfl⟩
  obtain ⟨k, hk⟩ : ∃ k, t.kind = k := ⟨_, rfl⟩
  have HN := Lib.hid hN
  have HK := Lib.hid hK
  rw [hN, hK] at hW1 HXB ⊢
  rw [hN] at hlen
  have HXC : Hid (∀ w', Below W1.heap.size W1 w' → w'.cell? ⟨X, 0, none⟩ = some (.int .i64 k) ∧ w'.cell? ⟨X, 1, none⟩ = some (.string (bs t.text)) ∧ w'.cell? ⟨X, 2, none⟩ = some (.slice pk K ck) ∧ w'.cell? ⟨X, 3, none⟩ = some (.slice p N c)) := Lib.hid (fun w' hb => by
    have := (HXB.out.keep hb).cells
    rw [hk] at this
    exact this)
  rw [hk] at HKE HCE hrk hW1 ⊢
  clear hit hlies h hm hev hrn hel hZ HXB hN hK hk hck hlc
  have sT := bs_size t.text
  by_cases h1 : k = 1
  · subst h1
    rw [if_pos rfl] at HCE
    obtain rfl := HCE.out
    go_enter Tryz.func114, Tryz.ntmps114
    go_upto_region 1 with fail
    clear hW1
    obtain ⟨b0, b1, b2, b3⟩ := HXC.out W1 (Below.refl _ _)
    go_wp2_with fail
    go_ret
    exact ⟨rfl, by first | exact HB1.out | (rw [← hX]; exact HB1.out)⟩
  rw [if_neg h1] at HCE
  by_cases h4 : k = 4
  · subst h4
    rw [if_pos rfl] at HCE
    have CQ := Lib.hid (fun w => refQuote_any t.text w (by omega))
    unfold QuoteE at CQ
    obtain ⟨⟨A, er⟩, hA⟩ : ∃ Q, quoteL t.text = Q := ⟨_, rfl⟩
    rw [hA] at CQ HCE
    simp only [] at CQ
    obtain rfl : Z = A := HCE.out
    clear hA HCE
    go_enter Tryz.func114, Tryz.ntmps114
    go_upto_region 1 with fail
    clear hW1
    obtain ⟨b0, b1, b2, b3⟩ := HXC.out W1 (Below.refl _ _)
    go_wp2_with fail
    refine (CQ.out _).mono ?_
    rintro e w2 ⟨rfl, hb2⟩
    have HB2 := Lib.hid (below_of_new HB1.out hb2)
    clear hb2 b0 b1 b2 b3
    go_wp2_with fail
    go_ret
    exact ⟨rfl, by first | exact HB2.out | (rw [← hX]; exact HB2.out)⟩
  rw [if_neg h4] at HCE
  by_cases h2 : k = 2 ∨ k = 3
  · rw [if_neg (by omega), if_neg (by omega)] at HCE
    obtain rfl := HCE.out
    rcases h2 with h2 | h2
    · subst h2
      go_enter Tryz.func114, Tryz.ntmps114
      go_upto_region 1 with fail
      clear hW1
      obtain ⟨b0, b1, b2, b3⟩ := HXC.out W1 (Below.refl _ _)
      go_wp2_with fail
      go_ret
      exact ⟨rfl, by first | exact HB1.out | (rw [← hX]; exact HB1.out)⟩
    · subst h2
      go_enter Tryz.func114, Tryz.ntmps114
      go_upto_region 1 with fail
      clear hW1
      obtain ⟨b0, b1, b2, b3⟩ := HXC.out W1 (Below.refl _ _)
      go_wp2_with fail
      go_ret
      exact ⟨rfl, by first | exact HB1.out | (rw [← hX]; exact HB1.out)⟩
  by_cases h5 : k = 5
  · subst h5
    rw [if_pos rfl] at HCE
    have HBL : Hid (∀ i, (itemsL true (t.items.take i)).length ≤ 12 * t.bulk) := Lib.hid (fun i => (by have h1 := items_len true (t.items.take i); have h2 := bulks_part t.items i; omega))
    by_cases h0 : N = 0
    · subst h0
      have hnil : t.items = [] := List.eq_nil_of_length_eq_zero HN.out
      obtain rfl : Z = [91, 93] := by rw [HCE.out, hnil]; rw [itemsL]; rfl
      clear HCE HBL
      go_enter Tryz.func114, Tryz.ntmps114
      go_upto_region 1 with fail
      clear hW1
      obtain ⟨b0, b1, b2, b3⟩ := HXC.out W1 (Below.refl _ _)
      go_wp2_with fail
      go_ret
      exact ⟨rfl, by first | exact HB1.out | (rw [← hX]; exact HB1.out)⟩
    have hN0 : ((N : Int) == 0) = false := beq_eq_false_iff_ne.2 (by omega)
    go_enter Tryz.func114, Tryz.ntmps114
    go_upto_region 1 with fail
    clear hW1
    obtain ⟨b0, b1, b2, b3⟩ := HXC.out W1 (Below.refl _ _)
    go_wp2_with fail
    clear b0 b1 b2 b3
    go_loopw [11, 12, 13, 14] (fun s11 s12 s13 s14 wr => ∃ (i : Nat) (A : Stp), s11 = .string (bs A) ∧ s12 = .int .i64 (i : Int) ∧ i ≤ N ∧ A.length ≤ 402653200 ∧ Hid (A = 91 :: itemsL true (t.items.take i)) ∧ Hid (Below W1.heap.size W1 wr)) (fun _ s12 _ _ _ => N - (RowKit.intOf s12).toNat)
    case atStart => exact ⟨0, [91], rfl, rfl, Nat.zero_le _, by simp, Lib.hid (by rw [List.take_zero]; rw [itemsL]), Lib.hid (by first | exact Below.refl _ _ | exact (Below.refl _ _).drew)⟩
    case round =>
      obtain ⟨i, A, rfl, rfl, hi, hAl, HA, HBr⟩ := hrel
      have HBL2 := Lib.hid (HBL.out (i + 1))
      obtain ⟨b0, b1, b2, b3⟩ := HXC.out _ HBr.out
      by_cases hil : i < N
      · obtain ⟨x, hx⟩ : ∃ x, t.items[i]? = some x := ⟨_, List.getElem?_eq_getElem (by have := HN.out; omega)⟩
        have hi1 : (i : Int) < (N : Int) := by omega
        have dk : decide ((i : Int) < (N : Int)) = true := decide_eq_true hi1
        have hxb := bulk_mem (List.mem_of_getElem? hx)
        obtain ⟨g, o, kv', iv', rfl, hg, n0, n1, n2, n3, hvd⟩ := HIT.out i x hx
        obtain ⟨pk2, ck2, px, cx, rfl, rfl⟩ := hvd.form
        have m0 : wr.cell? ⟨g, o + i * 4, none⟩ = some (.int .i64 x.kind) := by rw [HBr.out.cell (p := ⟨g, _, none⟩) hg]; exact n0
        have m1 : wr.cell? ⟨g, o + i * 4 + 1, none⟩ = some (.string (bs x.text)) := by rw [HBr.out.cell (p := ⟨g, _, none⟩) hg]; exact n1
        have m2 : wr.cell? ⟨g, o + i * 4 + 2, none⟩ = some (.slice pk2 x.keys.length ck2) := by rw [HBr.out.cell (p := ⟨g, _, none⟩) hg]; exact n2
        have m3 : wr.cell? ⟨g, o + i * 4 + 3, none⟩ = some (.slice px x.items.length cx) := by rw [HBr.out.cell (p := ⟨g, _, none⟩) hg]; exact n3
        have HX := Lib.hid hx
        have HG := Lib.hid hg
        have HNN := Lib.hid (And.intro n0 (And.intro n1 (And.intro n2 n3)))
        have HC : Hid (∀ w', Below W1.heap.size W1 w' → Calls Tryz.prog 114 #[.agg #[.int .i64 x.kind, .string (bs x.text), .slice pk2 x.keys.length ck2, .slice px x.items.length cx], .int .i64 (-1), .int .i64 ((lv : Int) + 1)] w' fun e w2 => e = .returned (.string (bs (compactL x))) ∧ Below w'.heap.size w' w2) := Lib.hid (fun w' hb => by
          have := IH x _ _ w' (lv + 1) (hvd.keep hb) (by omega) (by omega) (HEL.out x (List.mem_of_getElem? HX.out))
          rw [show (((lv + 1 : Nat)) : Int) = (lv : Int) + 1 by omega] at this
          exact this)
        have hcx := compact_len x
        have hbt := bulks_take hx
        obtain ⟨P, hP⟩ : ∃ P, compactL x = P := ⟨_, rfl⟩
        rw [hP] at HC hcx
        have hqn := items_next hx
        rw [hP] at hqn
        have HNX : Hid (A ++ sepL i ++ P = 91 :: itemsL true (t.items.take (i + 1))) := Lib.hid (by rw [hqn, HA.out]; simp only [List.cons_append, List.append_assoc])
        have hnl : (A ++ sepL i ++ P).length ≤ 402653200 := by rw [HNX.out, List.length_cons]; have := HBL2.out; omega
        clear hqn
        obtain ⟨A2, hA2⟩ : ∃ A2, A ++ sepL i = A2 := ⟨_, rfl⟩
        rw [hA2] at HNX hnl
        have HA2 := Lib.hid hA2
        clear hA2 hx hvd n0 n1 n2 n3 m0 m1 m2 m3 hP hg
        have slA := bs_size A
        go_upto_if 52 with fail
        go_cut [11] (fun s11 wx => s11 = .string (bs A2) ∧ Hid (Below W1.heap.size W1 wx))
        case first =>
          by_cases hi0 : i = 0
          · subst hi0
            obtain rfl : A = A2 := by rw [← HA2.out]; unfold sepL; simp
            go_wp2_with fail
            go_meet
            exact ⟨rfl, HBr⟩
          · have dz : decide ((0 : Int) < (i : Int)) = true := decide_eq_true (by omega)
            have hA3 : A2 = A ++ [44] := by rw [← HA2.out]; unfold sepL; rw [if_neg hi0]
            have hip : 0 < i := by omega
            have HA3 := Lib.hid hA3
            clear hA3 hi0
            go_wp2_with fail
            go_meet
            exact ⟨by rw [HA3.out, ← bs_append]; rfl, HBr⟩
        case rest =>
        obtain ⟨rfl, HB2⟩ := hcut
        clear slA b0 b1 b2 b3
        have slA := bs_size A2
        have slP := bs_size P
        have hnl2 := hnl
        simp only [List.length_append, List.length_singleton] at hnl2
        obtain ⟨b0, b1, b2, b3⟩ := HXC.out _ HB2.out
        have m0 := (HB2.out.cell (p := ⟨g, o + i * 4, none⟩) HG.out).trans HNN.out.1
        have m1 := (HB2.out.cell (p := ⟨g, o + i * 4 + 1, none⟩) HG.out).trans HNN.out.2.1
        have m2 := (HB2.out.cell (p := ⟨g, o + i * 4 + 2, none⟩) HG.out).trans HNN.out.2.2.1
        have m3 := (HB2.out.cell (p := ⟨g, o + i * 4 + 3, none⟩) HG.out).trans HNN.out.2.2.2
        have HC3 := Lib.hid (HC.out _ HB2.out)
        go_wp2_with fail
        refine HC3.out.mono ?_
        rintro e w4 ⟨rfl, hb4⟩
        have HB4 := Lib.hid (below_of_new HB2.out hb4)
        clear hb4 b0 b1 b2 b3 m0 m1 m2 m3 HC3
        go_wp2_with fail
        go_roundw
        case rel => exact ⟨i + 1, A2 ++ P, by rw [← bs_append], by go_num, by omega, hnl, HNX, by first | exact HB4 | exact Lib.hid (below_drewN HB4.out _)⟩
        case measure => simp [RowKit.intOf]; omega
      · have dk : decide ((i : Int) < (N : Int)) = false := decide_eq_false (by omega)
        obtain rfl : i = N := by omega
        obtain rfl : Z = A ++ [93] := by rw [HCE.out, HA.out, List.take_of_length_le (by have := HN.out; omega)]; rfl
        have HB5 := Lib.hid (below_of_new HB1.out HBr.out)
        have slA := bs_size A
        go_wp2_with fail
        go_ret
        exact ⟨by rw [← bs_append]; rfl, by first | exact HB5.out | (rw [← hX]; exact HB5.out)⟩
  rw [if_neg h5] at HCE
  have h6 : k = 6 := by omega
  clear h1 h4 h2 h5 hrk
  rw [if_pos h6] at HCE
  subst h6
  have hKN : K = N := by rw [← HK.out, ← HN.out]; exact HKE.out rfl
  rw [hKN] at hW1 HXC HK ⊢
  clear hKN
  have HBL : Hid (∀ i, (membersL true (t.items.take i) t.keys).length ≤ 12 * t.bulk) := Lib.hid (fun i => (by have h1 := members_len true (t.items.take i) t.keys; have h2 := bulks_part t.items i; omega))
  by_cases h0 : N = 0
  · subst h0
    have hnil : t.items = [] := List.eq_nil_of_length_eq_zero HN.out
    obtain rfl : Z = [123, 125] := by rw [HCE.out, hnil]; rw [membersL]; rfl
    clear HCE HBL
    go_enter Tryz.func114, Tryz.ntmps114
    go_upto_region 1 with fail
    clear hW1
    obtain ⟨b0, b1, b2, b3⟩ := HXC.out W1 (Below.refl _ _)
    go_wp2_with fail
    go_ret
    exact ⟨rfl, by first | exact HB1.out | (rw [← hX]; exact HB1.out)⟩
  have hN0 : ((N : Int) == 0) = false := beq_eq_false_iff_ne.2 (by omega)
  go_enter Tryz.func114, Tryz.ntmps114
  go_upto_region 1 with fail
  clear hW1
  obtain ⟨b0, b1, b2, b3⟩ := HXC.out W1 (Below.refl _ _)
  go_wp2_with fail
  clear b0 b1 b2 b3
  go_loopw [11, 12, 13, 14] (fun s11 s12 s13 s14 wr => ∃ (i : Nat) (A : Stp), s11 = .string (bs A) ∧ s12 = .int .i64 (i : Int) ∧ i ≤ N ∧ A.length ≤ 402653200 ∧ Hid (A = 123 :: membersL true (t.items.take i) t.keys) ∧ Hid (Below W1.heap.size W1 wr)) (fun _ s12 _ _ _ => N - (RowKit.intOf s12).toNat)
  case atStart => exact ⟨0, [123], rfl, rfl, Nat.zero_le _, by simp, Lib.hid (by rw [List.take_zero]; rw [membersL]), Lib.hid (by first | exact Below.refl _ _ | exact (Below.refl _ _).drew)⟩
  case round =>
    obtain ⟨i, A, rfl, rfl, hi, hAl, HA, HBr⟩ := hrel
    have HBL2 := Lib.hid (HBL.out (i + 1))
    obtain ⟨b0, b1, b2, b3⟩ := HXC.out _ HBr.out
    by_cases hil : i < N
    · obtain ⟨x, hx⟩ : ∃ x, t.items[i]? = some x := ⟨_, List.getElem?_eq_getElem (by have := HN.out; omega)⟩
      have hi1 : (i : Int) < (N : Int) := by omega
      have dk : decide ((i : Int) < (N : Int)) = true := decide_eq_true hi1
      have hxb := bulk_mem (List.mem_of_getElem? hx)
      obtain ⟨g, o, kv', iv', rfl, hg, n0, n1, n2, n3, hvd⟩ := HIT.out i x hx
      obtain ⟨pk2, ck2, px, cx, rfl, rfl⟩ := hvd.form
      have m0 : wr.cell? ⟨g, o + i * 4, none⟩ = some (.int .i64 x.kind) := by rw [HBr.out.cell (p := ⟨g, _, none⟩) hg]; exact n0
      have m1 : wr.cell? ⟨g, o + i * 4 + 1, none⟩ = some (.string (bs x.text)) := by rw [HBr.out.cell (p := ⟨g, _, none⟩) hg]; exact n1
      have m2 : wr.cell? ⟨g, o + i * 4 + 2, none⟩ = some (.slice pk2 x.keys.length ck2) := by rw [HBr.out.cell (p := ⟨g, _, none⟩) hg]; exact n2
      have m3 : wr.cell? ⟨g, o + i * 4 + 3, none⟩ = some (.slice px x.items.length cx) := by rw [HBr.out.cell (p := ⟨g, _, none⟩) hg]; exact n3
      have HX := Lib.hid hx
      have HG := Lib.hid hg
      have HNN := Lib.hid (And.intro n0 (And.intro n1 (And.intro n2 n3)))
      have HC : Hid (∀ w', Below W1.heap.size W1 w' → Calls Tryz.prog 114 #[.agg #[.int .i64 x.kind, .string (bs x.text), .slice pk2 x.keys.length ck2, .slice px x.items.length cx], .int .i64 (-1), .int .i64 ((lv : Int) + 1)] w' fun e w2 => e = .returned (.string (bs (compactL x))) ∧ Below w'.heap.size w' w2) := Lib.hid (fun w' hb => by
        have := IH x _ _ w' (lv + 1) (hvd.keep hb) (by omega) (by omega) (HEL.out x (List.mem_of_getElem? HX.out))
        rw [show (((lv + 1 : Nat)) : Int) = (lv : Int) + 1 by omega] at this
        exact this)
      have hcx := compact_len x
      have hbt := bulks_take hx
      obtain ⟨P, hP⟩ : ∃ P, compactL x = P := ⟨_, rfl⟩
      rw [hP] at HC hcx
      obtain ⟨y, hy⟩ : ∃ y, t.keys[i]? = some y := ⟨_, List.getElem?_eq_getElem (by have := HK.out; omega)⟩
      have hym := totS_mem (List.mem_of_getElem? hy)
      obtain ⟨gk, ok, rfl, hck0⟩ := HSL.out.at_ hy
      have HCK : Hid (∀ w', Below W1.heap.size W1 w' → w'.cell? ⟨gk, ok + i, none⟩ = some (.string (bs y))) := Lib.hid (fun w' hb => by
        rw [hb.cell (p := ⟨gk, ok + i, none⟩) (cell_lt hck0)]; exact hck0)
      have hik : (i : Int) < (N : Int) := by omega
      have CQ := Lib.hid (fun w => refQuote_any y w (by omega))
      unfold QuoteE at CQ
      have hqn := members_next hx hy
      have hyl := quoteL_len y
      obtain ⟨⟨B, er⟩, hB⟩ : ∃ Q, quoteL y = Q := ⟨_, rfl⟩
      rw [hB] at CQ hqn hyl
      rw [hP] at hqn
      simp only [] at CQ hqn hyl
      have HNX : Hid (A ++ sepL i ++ B ++ [58] ++ P = 123 :: membersL true (t.items.take (i + 1)) t.keys) := Lib.hid (by rw [hqn, HA.out]; simp only [List.cons_append, List.append_assoc])
      have hnl : (A ++ sepL i ++ B ++ [58] ++ P).length ≤ 402653200 := by rw [HNX.out, List.length_cons]; have := HBL2.out; omega
      clear hqn hB hck0 hy
      obtain ⟨A2, hA2⟩ : ∃ A2, A ++ sepL i = A2 := ⟨_, rfl⟩
      rw [hA2] at HNX hnl
      have HA2 := Lib.hid hA2
      clear hA2 hx hvd n0 n1 n2 n3 m0 m1 m2 m3 hP hg
      have slA := bs_size A
      go_upto_if 52 with fail
      go_cut [11] (fun s11 wx => s11 = .string (bs A2) ∧ Hid (Below W1.heap.size W1 wx))
      case first =>
        by_cases hi0 : i = 0
        · subst hi0
          obtain rfl : A = A2 := by rw [← HA2.out]; unfold sepL; simp
          go_wp2_with fail
          go_meet
          exact ⟨rfl, HBr⟩
        · have dz : decide ((0 : Int) < (i : Int)) = true := decide_eq_true (by omega)
          have hA3 : A2 = A ++ [44] := by rw [← HA2.out]; unfold sepL; rw [if_neg hi0]
          have hip : 0 < i := by omega
          have HA3 := Lib.hid hA3
          clear hA3 hi0
          go_wp2_with fail
          go_meet
          exact ⟨by rw [HA3.out, ← bs_append]; rfl, HBr⟩
      case rest =>
      obtain ⟨rfl, HB2⟩ := hcut
      clear slA b0 b1 b2 b3
      have slA := bs_size A2
      have slP := bs_size P
      have hnl2 := hnl
      simp only [List.length_append, List.length_singleton] at hnl2
      obtain ⟨b0, b1, b2, b3⟩ := HXC.out _ HB2.out
      have mk := HCK.out _ HB2.out
      have slB := bs_size B
      go_wp2_with fail
      refine (CQ.out _).mono ?_
      rintro e w3 ⟨rfl, hb3⟩
      have HB3 := Lib.hid (below_of_new HB2.out hb3)
      clear hb3 b0 b1 b2 b3 mk
      obtain ⟨b0, b1, b2, b3⟩ := HXC.out _ HB3.out
      have m0 := (HB3.out.cell (p := ⟨g, o + i * 4, none⟩) HG.out).trans HNN.out.1
      have m1 := (HB3.out.cell (p := ⟨g, o + i * 4 + 1, none⟩) HG.out).trans HNN.out.2.1
      have m2 := (HB3.out.cell (p := ⟨g, o + i * 4 + 2, none⟩) HG.out).trans HNN.out.2.2.1
      have m3 := (HB3.out.cell (p := ⟨g, o + i * 4 + 3, none⟩) HG.out).trans HNN.out.2.2.2
      have HC3 := Lib.hid (HC.out _ HB3.out)
      go_wp2_with fail
      refine HC3.out.mono ?_
      rintro e w4 ⟨rfl, hb4⟩
      have HB4 := Lib.hid (below_of_new HB3.out hb4)
      clear hb4 b0 b1 b2 b3 m0 m1 m2 m3 HC3
      go_wp2_with fail
      go_roundw
      case rel => exact ⟨i + 1, A2 ++ B ++ [58] ++ P, by rw [← bs_append, ← bs_append, ← bs_append]; rfl, by go_num, by omega, hnl, HNX, by first | exact HB4 | exact Lib.hid (below_drewN HB4.out _)⟩
      case measure => simp [RowKit.intOf]; omega
    · have dk : decide ((i : Int) < (N : Int)) = false := decide_eq_false (by omega)
      obtain rfl : i = N := by omega
      obtain rfl : Z = A ++ [125] := by rw [HCE.out, HA.out, List.take_of_length_le (by have := HN.out; omega)]; rfl
      have HB5 := Lib.hid (below_of_new HB1.out HBr.out)
      have slA := bs_size A
      go_wp2_with fail
      go_ret
      exact ⟨by rw [← bs_append]; rfl, by first | exact HB5.out | (rw [← hX]; exact HB5.out)⟩
theorem rtext_any : ∀ n, RTx n
  | 0 => fun _ _ _ _ _ h => h.elim
  | n + 1 => rtext_step n (rtext_any n)
end Go.Proofs.YtnnlpkbopeiefaaGreatDoor
/-! The reference's Compact, Write, WriteKey. Printed by mkti.py. -/
namespace Go.Proofs.YtnnlpkbopeiefaaGreatDoor
set_option linter.unusedSimpArgs false
set_option linter.unusedVariables false
open Go.RowKit
open Go.Lib hiding intOf
set_option maxRecDepth 100000 in
set_option maxHeartbeats 1000000 in
theorem rcompact_any (n : Nat) (t : VT) (kv iv : Value) (w : World) (hn : VD w n t kv iv) (hbk : t.bulk ≤ 33554432) (hV : VVar w) :
    Calls Tryz.prog 66 #[vv t kv iv] w fun e w' => e = QuotedE (compP t) ∧ Below w.heap.size w w' := by
  have h := hn.tight
  clear hn
  obtain ⟨pk, ck, p, c, rfl, rfl⟩ := h.form
  obtain ⟨X, hX⟩ : ∃ X, w.heap.size = X := ⟨_, rfl⟩
  obtain ⟨W1, hW1⟩ : ∃ W, w.alloc (.cells #[.int .i64 t.kind, .string (bs t.text), .slice pk t.keys.length ck, .slice p t.items.length c] 25) = W := ⟨_, rfl⟩
  have HB1 : Hid (Below w.heap.size w W1) := Lib.hid (by rw [← hW1]; exact below_alloc1 _ _)
  have HXB : Hid (VBox W1 X t (.slice pk t.keys.length ck) (.slice p t.items.length c)) := Lib.hid (by rw [← hW1, ← hX]; exact VBox.new w t _ _)
  have HVD := Lib.hid (h.keep HB1.out)
  have HV := Lib.hid (hV.keep HB1.out)
  have HC1 := Lib.hid (rright_any t.depth t _ _ W1 HVD.out (by omega) HV.out)
  have hds := depth_le_size t
  have hsb := size_le_bulk t
  have CT : Hid (RightB t = true → ∀ w', Below W1.heap.size W1 w' → Calls Tryz.prog 114 #[vv t (.slice pk t.keys.length ck) (.slice p t.items.length c), .int .i64 (-1), .int .i64 0] w' fun e w2 => e = .returned (.string (bs (compactL t))) ∧ Below w'.heap.size w' w2) := Lib.hid (fun hr w' hb => rtext_any t.depth t _ _ w' 0 (HVD.out.keep hb) hbk (by omega) (right_every hr))
  unfold vv at HC1 CT ⊢
  unfold compP QuotedE
  obtain ⟨y, hy⟩ : ∃ y, RightB t = y := ⟨_, rfl⟩
  rw [hy] at HC1 CT
  rw [hy]
  clear h hV hy
  cases y with
  | false =>
    rw [if_neg (by simp)]
    go_enter Tryz.func66, Tryz.ntmps66
    go_upto_region 1 with fail
    clear hW1
    obtain ⟨b0, b1, b2, b3⟩ := HXB.out.cells
    go_wp2_with fail
    refine HC1.out.mono ?_
    rintro e w2 ⟨rfl, hb2⟩
    have HB2 := Lib.hid (below_of_new HB1.out hb2)
    clear hb2 b0 b1 b2 b3
    go_wp2_with fail
    go_ret2
    exact ⟨rfl, by first | exact HB2.out | (rw [← hX]; exact HB2.out)⟩
  | true =>
    rw [if_pos rfl]
    have CT2 := Lib.hid (CT.out rfl)
    clear CT
    go_enter Tryz.func66, Tryz.ntmps66
    go_upto_region 1 with fail
    clear hW1
    obtain ⟨b0, b1, b2, b3⟩ := HXB.out.cells
    go_wp2_with fail
    refine HC1.out.mono ?_
    rintro e w2 ⟨rfl, hb2⟩
    have HB2 := Lib.hid hb2
    clear hb2 b0 b1 b2 b3
    obtain ⟨b0, b1, b2, b3⟩ := (HXB.out.keep HB2.out).cells
    go_wp2_with fail
    refine (CT2.out _ HB2.out).mono ?_
    rintro e w3 ⟨rfl, hb3⟩
    have HB3 := Lib.hid (below_of_new HB1.out (below_of_new HB2.out hb3))
    clear hb3 b0 b1 b2 b3
    go_wp2_with fail
    go_ret2
    exact ⟨rfl, by first | exact HB3.out | (rw [← hX]; exact HB3.out)⟩
set_option maxRecDepth 100000 in
set_option maxHeartbeats 1000000 in
theorem rwrite_any (n : Nat) (t : VT) (kv iv : Value) (w : World) (h : VD w n t kv iv) (hbk : t.bulk ≤ 16777216) (hV : YVar w) :
    Calls Tryz.prog 32 #[vv t kv iv] w fun e w' => e = QuotedE (writeY t) ∧ Below w.heap.size w w' := by
  obtain ⟨pk, ck, p, c, rfl, rfl⟩ := h.form
  obtain ⟨X, hX⟩ : ∃ X, w.heap.size = X := ⟨_, rfl⟩
  obtain ⟨W1, hW1⟩ : ∃ W, w.alloc (.cells #[.int .i64 t.kind, .string (bs t.text), .slice pk t.keys.length ck, .slice p t.items.length c] 25) = W := ⟨_, rfl⟩
  have HB1 : Hid (Below w.heap.size w W1) := Lib.hid (by rw [← hW1]; exact below_alloc1 _ _)
  have HXB : Hid (VBox W1 X t (.slice pk t.keys.length ck) (.slice p t.items.length c)) := Lib.hid (by rw [← hW1, ← hX]; exact VBox.new w t _ _)
  have HVD := Lib.hid (h.keep HB1.out)
  have HV := Lib.hid (hV.keep HB1.out)
  have HC1 := Lib.hid (rright_any n t _ _ W1 HVD.out (by omega) HV.out.1)
  have hbt : t.text.length < t.bulk := by cases t; rw [VT.bulk]; simp only [VT.text]; omega
  have hcl := compact_len t
  have CP : Hid (∀ w', Below W1.heap.size W1 w' → Calls Tryz.prog 66 #[vv t (.slice pk t.keys.length ck) (.slice p t.items.length c)] w' fun e w2 => e = QuotedE (compP t) ∧ Below w'.heap.size w' w2) := Lib.hid (fun w' hb => rcompact_any n t _ _ w' (HVD.out.keep hb) (by omega) (HV.out.keep hb).1)
  have CB : Hid (∀ w', Below W1.heap.size W1 w' → Calls Tryz.prog 41 #[.string (bs t.text)] w' fun e w2 => e = .returned (.bool (bareB t.text)) ∧ Below w'.heap.size w' w2) := Lib.hid (fun w' hb => rbare_any t.text w' (by omega))
  have CR : Hid (∀ w', Below W1.heap.size W1 w' → Calls Tryz.prog 43 #[.string (bs t.text)] w' fun e w2 => e = ResE t.text ∧ Below w'.heap.size w' w2) := Lib.hid (fun w' hb => rresolve_any t.text w' (by omega) (HV.out.keep hb))
  have CQ : Hid (∀ w', Below W1.heap.size W1 w' → Calls Tryz.prog 68 #[.string (bs t.text)] w' fun e w2 => e = QuotedE (quotedY t.text) ∧ Below w'.heap.size w' w2) := Lib.hid (fun w' hb => rquoted_any t.text w' (by omega))
  have CS : Hid (∀ w', Below W1.heap.size W1 w' → Calls Tryz.prog 67 #[.string (bs (compactL t))] w' fun e w2 => e = .returned (.string (bs (safeL (compactL t)))) ∧ Below w'.heap.size w' w2) := Lib.hid (fun w' hb => rsafe_any _ w' (by omega))
  unfold vv at HC1 CP ⊢
  unfold writeY
  unfold compP at CP
  obtain ⟨y, hy⟩ : ∃ y, RightB t = y := ⟨_, rfl⟩
  rw [hy] at HC1 CP
  rw [hy]
  clear h hV hy
  cases y with
  | false =>
    rw [if_neg (by simp)]
    clear CP CB CR CQ CS
    go_enter Tryz.func32, Tryz.ntmps32
    go_upto_region 1 with fail
    clear hW1
    obtain ⟨b0, b1, b2, b3⟩ := HXB.out.cells
    go_wp2_with fail
    refine HC1.out.mono ?_
    rintro e w2 ⟨rfl, hb2⟩
    have HB2 := Lib.hid (below_of_new HB1.out hb2)
    clear hb2 b0 b1 b2 b3
    go_wp2_with fail
    go_ret2
    exact ⟨rfl, by first | exact HB2.out | (rw [← hX]; exact HB2.out)⟩
  | true =>
    rw [if_pos rfl]
    rw [if_pos rfl] at CP
    by_cases k4 : t.kind = 4
    · rw [if_pos k4]
      have d4 : (t.kind != 4) = false := by simp [k4]
      have d4b : (t.kind == 4) = true := by simp [k4]
      obtain ⟨q1, hq1⟩ : ∃ q, bareB t.text = q := ⟨_, rfl⟩
      unfold ResE at CR
      obtain ⟨rk, hrk⟩ : ∃ r, (resP t.text).1 = r := ⟨_, rfl⟩
      obtain ⟨rt, hrt⟩ : ∃ r, (resP t.text).2 = r := ⟨_, rfl⟩
      obtain ⟨Q, hQ⟩ : ∃ Q, quotedY t.text = Q := ⟨_, rfl⟩
      rw [hq1] at CB
      rw [hrk, hrt] at CR
      rw [hQ] at CQ
      rw [hq1, hrk, hQ]
      obtain ⟨qt, qe⟩ := Q
      clear CP CS hq1 hrk hrt hQ k4
      unfold QuotedE at CQ
      simp only [] at CQ
      cases q1 with
      | false =>
        rw [Bool.false_and, if_neg (by simp)]
        go_enter Tryz.func32, Tryz.ntmps32
        go_upto_region 1 with fail
        clear hW1
        obtain ⟨b0, b1, b2, b3⟩ := HXB.out.cells
        go_wp2_with fail
        refine HC1.out.mono ?_
        rintro e w2 ⟨rfl, hb2⟩
        have HB2 := Lib.hid hb2
        clear hb2 b0 b1 b2 b3
        obtain ⟨b0, b1, b2, b3⟩ := (HXB.out.keep HB2.out).cells
        go_wp2_with fail
        refine (CB.out _ HB2.out).mono ?_
        rintro e w3 ⟨rfl, hb3⟩
        have HB3 := Lib.hid (below_of_new HB2.out hb3)
        clear hb3 b0 b1 b2 b3
        obtain ⟨b0, b1, b2, b3⟩ := (HXB.out.keep HB3.out).cells
        go_wp2_with fail
        refine (CQ.out _ HB3.out).mono ?_
        rintro e w4 ⟨rfl, hb4⟩
        have HB4 := Lib.hid (below_of_new HB3.out hb4)
        clear hb4 b0 b1 b2 b3
        go_wp2_with fail
        go_ret2
        exact ⟨rfl, by first | exact below_of_new HB1.out HB4.out | (rw [← hX]; exact below_of_new HB1.out HB4.out)⟩
      | true =>
        have hfld : ∀ w, (Instr.field 25 (.agg #[.int .i64 rk, .string (bs rt), .slice none 0 0, .slice none 0 0]) 0).run Tryz.prog w = .ok (.int .i64 rk) w := fun w => by kernel_rfl
        rw [Bool.true_and]
        by_cases r4 : rk = 4
        · rw [if_pos (by simpa using r4)]
          have dr : (rk == 4) = true := by simp [r4]
          clear r4 CQ
          go_enter Tryz.func32, Tryz.ntmps32
          go_upto_region 1 with fail
          clear hW1
          obtain ⟨b0, b1, b2, b3⟩ := HXB.out.cells
          go_wp2_with fail
          refine HC1.out.mono ?_
          rintro e w2 ⟨rfl, hb2⟩
          have HB2 := Lib.hid hb2
          clear hb2 b0 b1 b2 b3
          obtain ⟨b0, b1, b2, b3⟩ := (HXB.out.keep HB2.out).cells
          go_wp2_with fail
          refine (CB.out _ HB2.out).mono ?_
          rintro e w3 ⟨rfl, hb3⟩
          have HB3 := Lib.hid (below_of_new HB2.out hb3)
          clear hb3 b0 b1 b2 b3
          obtain ⟨b0, b1, b2, b3⟩ := (HXB.out.keep HB3.out).cells
          go_wp2_with fail
          refine (CR.out _ HB3.out).mono ?_
          rintro e w4 ⟨rfl, hb4⟩
          have HB4 := Lib.hid (below_of_new HB3.out hb4)
          clear hb4 b0 b1 b2 b3
          obtain ⟨b0, b1, b2, b3⟩ := (HXB.out.keep HB4.out).cells
          go_wp2_with fail
          go_ret2
          exact ⟨rfl, by first | exact below_of_new HB1.out HB4.out | (rw [← hX]; exact below_of_new HB1.out HB4.out)⟩
        · rw [if_neg (by simpa using r4)]
          have dr : (rk == 4) = false := by simp [r4]
          clear r4
          go_enter Tryz.func32, Tryz.ntmps32
          go_upto_region 1 with fail
          clear hW1
          obtain ⟨b0, b1, b2, b3⟩ := HXB.out.cells
          go_wp2_with fail
          refine HC1.out.mono ?_
          rintro e w2 ⟨rfl, hb2⟩
          have HB2 := Lib.hid hb2
          clear hb2 b0 b1 b2 b3
          obtain ⟨b0, b1, b2, b3⟩ := (HXB.out.keep HB2.out).cells
          go_wp2_with fail
          refine (CB.out _ HB2.out).mono ?_
          rintro e w3 ⟨rfl, hb3⟩
          have HB3 := Lib.hid (below_of_new HB2.out hb3)
          clear hb3 b0 b1 b2 b3
          obtain ⟨b0, b1, b2, b3⟩ := (HXB.out.keep HB3.out).cells
          go_wp2_with fail
          refine (CR.out _ HB3.out).mono ?_
          rintro e w4 ⟨rfl, hb4⟩
          have HB4 := Lib.hid (below_of_new HB3.out hb4)
          clear hb4 b0 b1 b2 b3
          obtain ⟨b0, b1, b2, b3⟩ := (HXB.out.keep HB4.out).cells
          go_wp2_with fail
          refine (CQ.out _ HB4.out).mono ?_
          rintro e w5 ⟨rfl, hb5⟩
          have HB5 := Lib.hid (below_of_new HB4.out hb5)
          clear hb5 b0 b1 b2 b3
          go_wp2_with fail
          go_ret2
          exact ⟨rfl, by first | exact below_of_new HB1.out HB5.out | (rw [← hX]; exact below_of_new HB1.out HB5.out)⟩
    · rw [if_neg k4]
      have d4 : (t.kind != 4) = true := by simp [k4]
      unfold QuotedE at CP
      simp only [] at CP
      obtain ⟨C, hC⟩ : ∃ C, compactL t = C := ⟨_, rfl⟩
      obtain ⟨Z, hZ⟩ : ∃ Z, safeL C = Z := ⟨_, rfl⟩
      rw [hC, hZ] at CS
      rw [hC] at CP
      rw [hC, hZ]
      clear CB CR CQ k4 hC hZ
      go_enter Tryz.func32, Tryz.ntmps32
      go_upto_region 1 with fail
      clear hW1
      obtain ⟨b0, b1, b2, b3⟩ := HXB.out.cells
      go_wp2_with fail
      refine HC1.out.mono ?_
      rintro e w2 ⟨rfl, hb2⟩
      have HB2 := Lib.hid hb2
      clear hb2 b0 b1 b2 b3
      obtain ⟨b0, b1, b2, b3⟩ := (HXB.out.keep HB2.out).cells
      go_wp2_with fail
      refine (CP.out _ HB2.out).mono ?_
      rintro e w3 ⟨rfl, hb3⟩
      have HB3 := Lib.hid (below_of_new HB2.out hb3)
      clear hb3 b0 b1 b2 b3
      go_wp2_with fail
      refine (CS.out _ HB3.out).mono ?_
      rintro e w4 ⟨rfl, hb4⟩
      have HB4 := Lib.hid (below_of_new HB3.out hb4)
      clear hb4
      go_wp2_with fail
      go_ret2
      exact ⟨rfl, by first | exact below_of_new HB1.out HB4.out | (rw [← hX]; exact below_of_new HB1.out HB4.out)⟩
set_option maxRecDepth 100000 in
set_option maxHeartbeats 1000000 in
theorem rwritekey_any (s : Stp) (w : World) (hs : s.length ≤ 16777216) (hV : YVar w) :
    Calls Tryz.prog 34 #[.string (bs s)] w fun e w' => e = QuotedE (keyY s) ∧ Below w.heap.size w w' := by
  obtain ⟨N, C1⟩ := rvalid_any s w (by omega)
  have CB : Hid (∀ w', Below w.heap.size w w' → Calls Tryz.prog 41 #[.string (bs s)] w' fun e w2 => e = .returned (.bool (bareB s)) ∧ Below w'.heap.size w' w2) := Lib.hid (fun w' hb => rbare_any s w' (by omega))
  have CQ : Hid (∀ w', Below w.heap.size w w' → Calls Tryz.prog 68 #[.string (bs s)] w' fun e w2 => e = QuotedE (quotedY s) ∧ Below w'.heap.size w' w2) := Lib.hid (fun w' hb => rquoted_any s w' (by omega))
  unfold keyY
  obtain ⟨q0, hq0⟩ : ∃ q, Lib.validD s = q := ⟨_, rfl⟩
  obtain ⟨q1, hq1⟩ : ∃ q, bareB s = q := ⟨_, rfl⟩
  obtain ⟨Q, hQ⟩ : ∃ Q, quotedY s = Q := ⟨_, rfl⟩
  rw [hq0] at C1
  rw [hq1] at CB
  rw [hQ] at CQ
  rw [hq0, hq1, hQ]
  obtain ⟨qt, qe⟩ := Q
  have HC1 := Lib.hid C1
  unfold QuotedE at CQ
  simp only [] at CQ
  clear C1 hq0 hq1 hQ hV
  cases q0 with
  | false =>
    rw [if_neg (by simp)]
    go_enter Tryz.func34, Tryz.ntmps34
    go_wp2_with fail
    refine HC1.out.mono ?_
    rintro e w2 ⟨rfl, hb2⟩
    have HB2 := Lib.hid hb2
    clear hb2
    go_wp2_with fail
    go_ret2
    exact ⟨rfl, HB2.out⟩
  | true =>
    rw [if_pos rfl]
    go_enter Tryz.func34, Tryz.ntmps34
    go_wp2_with fail
    refine HC1.out.mono ?_
    rintro e w2 ⟨rfl, hb2⟩
    have HB2 := Lib.hid hb2
    clear hb2
    go_wp2_with fail
    refine (CB.out _ HB2.out).mono ?_
    rintro e w3 ⟨rfl, hb3⟩
    have HB3 := Lib.hid (below_of_new HB2.out hb3)
    clear hb3
    cases q1 with
    | true =>
      go_wp2_with fail
      go_ret2
      exact ⟨rfl, HB3.out⟩
    | false =>
      go_wp2_with fail
      refine (CQ.out _ HB3.out).mono ?_
      rintro e w4 ⟨rfl, hb4⟩
      have HB4 := Lib.hid (below_of_new HB3.out hb4)
      clear hb4
      go_wp2_with fail
      go_ret2
      exact ⟨rfl, HB4.out⟩
end Go.Proofs.YtnnlpkbopeiefaaGreatDoor
