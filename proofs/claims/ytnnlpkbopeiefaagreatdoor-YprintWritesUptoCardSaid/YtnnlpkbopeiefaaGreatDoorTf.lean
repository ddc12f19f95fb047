import Derived.Test.YtnnlpkbopeiefaaGreatDoorTd
/-! The reference's node. Printed by mktf.py. -/
namespace Go.Proofs.YtnnlpkbopeiefaaGreatDoor
set_option linter.unusedSimpArgs false
set_option linter.unusedVariables false
open Go.RowKit
open Go.Lib hiding intOf
theorem keys_go_bad {ks had : List Stp} {i : Nat} {k : Stp} (hk : ks[i]? = some k) (hv : Lib.validD k = false ∨ k ∈ had) : keysGo had (ks.drop i) = false := by
  obtain ⟨h1, h2⟩ := List.getElem?_eq_some_iff.1 hk
  rw [List.drop_eq_getElem_cons h1, h2]
  unfold keysGo
  rcases hv with h | h
  · rw [h]; simp
  · rw [decide_eq_true h]; simp
theorem keys_go_on {ks had : List Stp} {i : Nat} {k : Stp} (hk : ks[i]? = some k) (hv : Lib.validD k = true) (hn : k ∉ had) : keysGo had (ks.drop i) = keysGo (k :: had) (ks.drop (i + 1)) := by
  obtain ⟨h1, h2⟩ := List.getElem?_eq_some_iff.1 hk
  rw [List.drop_eq_getElem_cons h1, h2]
  conv => lhs; unfold keysGo
  rw [hv, decide_eq_false hn]
  rfl
theorem take_rev {ks : List Stp} {i : Nat} {k : Stp} (hk : ks[i]? = some k) : (ks.take (i + 1)).reverse = k :: (ks.take i).reverse := by
  obtain ⟨h1, h2⟩ := List.getElem?_eq_some_iff.1 hk
  rw [List.take_succ_eq_append_getElem h1, h2, List.reverse_append]
  rfl
def NdE (k : Int) (R : Bool) (e : Ending) : Prop := ∃ r, e = .returned (.bool r) ∧ (k ≠ 7 → r = R)
theorem parse_err {s : Stp} {m : Num} {er : Int} (h : parseL s = (m, er)) (he : er ≠ 0) : m = nought := by
  unfold parseL at h
  split at h
  · injection h with h1 _; exact h1.symm
  · unfold parseLit at h
    dsimp only at h
    repeat' (split at h)
    all_goals (injection h with h1 h2; first | exact h1.symm | exact absurd h2.symm he)
set_option maxRecDepth 100000 in
set_option maxHeartbeats 4000000 in
theorem rnode_any (t : VT) (kv : Value) (p : Option Addr) (c : Nat) (w : World) (hks : SV w kv t.keys) (hbk : t.bulk ≤ 1073741824) (hV : VVar w) :
    Calls Tryz.prog 166 #[vv t kv (.slice p t.items.length c)] w fun e w' => NdE t.kind (nodeB t) e ∧ Below w.heap.size w w' := by
  obtain ⟨pk, ck, rfl, hck, hl⟩ := hks
  obtain ⟨X, hX⟩ : ∃ X, w.heap.size = X := ⟨_, rfl⟩
  obtain ⟨W1, hW1⟩ : ∃ W, w.alloc (.cells #[.int .i64 t.kind, .string (bs t.text), .slice pk t.keys.length ck, .slice p t.items.length c] 25) = W := ⟨_, rfl⟩
  have HB1 : Hid (Below w.heap.size w W1) := Lib.hid (by rw [← hW1]; exact below_alloc1 _ _)
  have HXB : Hid (VBox W1 X t (.slice pk t.keys.length ck) (.slice p t.items.length c)) := Lib.hid (by rw [← hW1, ← hX]; exact VBox.new w t _ _)
  have HSL := Lib.hid (hl.keep HB1.out)
  have HV := Lib.hid (hV.keep HB1.out)
  have hb0 : t.bulk = t.text.length + (totS t.keys + t.keys.length) + bulks t.items + 1 := by cases t; rw [VT.bulk]; rfl
  have hlen := len_le_bulks t.items
  clear hl hV
  unfold vv nodeB
  obtain ⟨k, s, ks, l⟩ := t
  simp only [VT.kind, VT.text, VT.items, VT.keys] at hW1 HXB HSL hb0 hlen ⊢
  obtain ⟨n, hn⟩ : ∃ n, l.length = n := ⟨_, rfl⟩
  rw [hn] at hW1 HXB hlen ⊢
  have HN := Lib.hid hn
  clear hn
  have e0 := str_nil2 s
  have CD : Hid (∀ w', Below W1.heap.size W1 w' → Calls Tryz.prog 214 #[.string (bs s)] w' fun e w2 => e = DecE s ∧ Below w'.heap.size w' w2) := Lib.hid (fun w' hb => rdecimal_any s w' (by omega) (HV.out.keep hb))
  have CU := Lib.hid (fun w => rutf_any s w (by omega))
  have sl := bs_size s
  unfold DecE numV at CD
  have hdl : ∀ m, decB s = m → Hid (decB s = m) := fun m h => Lib.hid h
  by_cases h6 : k = 6
  · subst h6
    rw [show nodeF 6 s ks n = (keyedB ks n && s.isEmpty) from rfl]
    unfold keyedB
    clear CD CU hdl
    obtain ⟨Q, hQ⟩ : ∃ Q, (keysGo [] ks && decide (ks.length = n) && s.isEmpty) = Q := ⟨_, rfl⟩
    rw [hQ]
    have HQ : Hid ((keysGo (ks.take 0).reverse (ks.drop 0) && (decide (ks.length = n) && s.isEmpty)) = Q) := Lib.hid (by rw [List.take_zero, List.drop_zero, List.reverse_nil, ← Bool.and_assoc]; exact hQ)
    clear hQ
    obtain ⟨E, hE⟩ : ∃ E, s.isEmpty = E := ⟨_, rfl⟩
    rw [hE] at HQ e0
    clear hE
    go_enter Tryz.func166, Tryz.ntmps166
    go_upto_region 1 with fail
    clear hW1
    obtain ⟨b0, b1, b2, b3⟩ := HXB.out.cells
    simp only [VT.kind, VT.text, VT.items, VT.keys] at b0 b1 b2 b3
    go_wp2_with fail
    clear b0 b1 b2 b3
    go_loopw [9, 10, 11] (fun s9 s10 s11 wr => ∃ i : Nat, s9 = .int .i64 (i : Int) ∧ i ≤ ks.length ∧ Hid ((keysGo (ks.take i).reverse (ks.drop i) && (decide (ks.length = n) && E)) = Q) ∧ Hid (Below W1.heap.size W1 wr)) (fun s9 _ _ _ => ks.length - (RowKit.intOf s9).toNat)
    case atStart => exact ⟨0, rfl, Nat.zero_le _, HQ, Lib.hid (by first | exact Below.refl _ _ | exact (Below.refl _ _).drew)⟩
    case round =>
      obtain ⟨i, rfl, hi, HQi, HBr⟩ := hrel
      obtain ⟨b0, b1, b2, b3⟩ := (HXB.out.keep HBr.out).cells
      simp only [VT.kind, VT.text, VT.items, VT.keys] at b0 b1 b2 b3
      have HBW := Lib.hid (below_of_new HB1.out HBr.out)
      by_cases hil : i < ks.length
      · have dk : decide ((i : Int) < (ks.length : Int)) = true := decide_eq_true (by omega)
        have hiz : (i : Int) < (ks.length : Int) := by omega
        obtain ⟨x, hx⟩ : ∃ x, ks[i]? = some x := ⟨_, List.getElem?_eq_getElem hil⟩
        have hxm := totS_mem (List.mem_of_getElem? hx)
        obtain ⟨g, o, rfl, hg⟩ := HSL.out.at_ hx
        have hgl := cell_lt hg
        have m0 : wr.cell? ⟨g, o + i, none⟩ = some (.string (bs x)) := by rw [HBr.out.cell (p := ⟨g, o + i, none⟩) hgl]; exact hg
        have CX := Lib.hid (rutf_any x wr (by omega))
        have HX := Lib.hid hx
        have HG := Lib.hid hgl
        clear hg hgl
        cases hv : Lib.validD x with
        | false =>
          rw [hv] at CX
          obtain rfl : Q = false := by rw [← HQi.out, keys_go_bad hx (.inl hv)]; rfl
          clear hv hx
          go_wp2_with fail
          refine CX.out.mono ?_
          rintro e w2 ⟨rfl, hb2⟩
          have HB2 := Lib.hid (below_of_new HBW.out hb2)
          clear hb2 b0 b1 b2 b3 m0
          go_wp2_with fail
          go_ret
          exact ⟨⟨false, rfl, fun _ => rfl⟩, by first | exact HB2.out | (rw [← hX]; exact HB2.out)⟩
        | true =>
          rw [hv] at CX
          have HNX : Hid (x ∈ ks.take i → Q = false) := Lib.hid (fun hm => by rw [← HQi.out, keys_go_bad hx (.inr (List.mem_reverse.2 hm))]; rfl)
          have HON : Hid (x ∉ ks.take i → (keysGo (ks.take (i + 1)).reverse (ks.drop (i + 1)) && (decide (ks.length = n) && E)) = Q) := Lib.hid (fun hm => by rw [← HQi.out, keys_go_on hx hv (fun h => hm (List.mem_reverse.1 h)), take_rev hx])
          clear hv hx HQi
          go_wp2_with fail
          refine CX.out.mono ?_
          rintro e w2 ⟨rfl, hb2⟩
          have HB2 := Lib.hid (below_of_new HBr.out hb2)
          clear hb2 b0 b1 b2 b3 m0 CX
          go_wp2_with fail
          go_loopw [11] (fun s11 wx => ∃ j : Nat, s11 = .int .i64 (j : Int) ∧ j ≤ i ∧ Hid (x ∉ ks.take j) ∧ Hid (Below W1.heap.size W1 wx)) (fun s11 _ => i - (RowKit.intOf s11).toNat)
          case atStart => exact ⟨0, rfl, Nat.zero_le _, Lib.hid (by simp), HB2⟩
          case round =>
            obtain ⟨j, rfl, hj, HNJ, HBx⟩ := hrel
            obtain ⟨b0, b1, b2, b3⟩ := (HXB.out.keep HBx.out).cells
            simp only [VT.kind, VT.text, VT.items, VT.keys] at b0 b1 b2 b3
            have HBX := Lib.hid (below_of_new HB1.out HBx.out)
            by_cases hji : j < i
            · have dj : decide ((j : Int) < (i : Int)) = true := decide_eq_true (by omega)
              have hjz : (j : Int) < (ks.length : Int) := by omega
              obtain ⟨y, hy⟩ : ∃ y, ks[j]? = some y := ⟨_, List.getElem?_eq_getElem (by omega)⟩
              obtain ⟨g2, o2, hp2, hg2⟩ := HSL.out.at_ hy
              obtain ⟨rfl, rfl⟩ : g = g2 ∧ o = o2 := by simp at hp2; exact hp2
              have m0 : wr.cell? ⟨g, o + i, none⟩ = some (.string (bs x)) := by
                obtain ⟨g3, o3, hp3, hg3⟩ := HSL.out.at_ HX.out
                obtain ⟨rfl, rfl⟩ : g = g3 ∧ o = o3 := by simp at hp3; exact hp3
                rw [HBx.out.cell (p := ⟨g, o + i, none⟩) HG.out]; exact hg3
              have m1 : wr.cell? ⟨g, o + j, none⟩ = some (.string (bs y)) := by rw [HBx.out.cell (p := ⟨g, o + j, none⟩) HG.out]; exact hg2
              have hyt : y ∈ ks.take i := by
                have : (ks.take i)[j]? = some y := by rw [List.getElem?_take, if_pos hji]; exact hy
                exact List.mem_of_getElem? this
              have hyn : y ≠ x → x ∉ ks.take (j + 1) := fun hne => by
                obtain ⟨h1, h2⟩ := List.getElem?_eq_some_iff.1 hy
                rw [List.take_succ_eq_append_getElem h1, h2, List.mem_append, List.mem_singleton]
                rintro (h | h)
                · exact HNJ.out h
                · exact hne h.symm
              have q1 := str_eq y x
              have q2 := str_eq2 y x
              by_cases hyx : y = x
              · rw [decide_eq_true hyx] at q1 q2
                obtain rfl := HNX.out (by rw [← hyx]; exact hyt)
                clear hy hp2 hg2 hyt hyn hyx
                go_upto_region 28 with fail
                go_region
                all_goals
                  go_wp2_with fail
                  go_ret
                  exact ⟨⟨false, rfl, fun _ => rfl⟩, by first | exact HBX.out | exact HBX.out.drew | (rw [← hX]; exact HBX.out) | (rw [← hX]; exact HBX.out.drew)⟩
              · rw [decide_eq_false hyx] at q1 q2
                have HNJ2 := Lib.hid (hyn hyx)
                clear hy hp2 hg2 hyt hyn hyx HNJ
                go_upto_region 28 with fail
                go_region
                all_goals
                  go_wp2_with fail
                  go_roundw
                  case rel => exact ⟨j + 1, by go_num, by omega, HNJ2, by first | exact HBx | exact Lib.hid (below_drewN HBx.out _)⟩
                  case measure => simp [RowKit.intOf]; omega
            · have dj : decide ((j : Int) < (i : Int)) = false := decide_eq_false (by omega)
              obtain rfl : j = i := by omega
              have HQ2 := Lib.hid (HON.out HNJ.out)
              clear b0 b1 b2 b3
              go_wp2_with fail
              go_roundw
              case rel => exact ⟨j + 1, by go_num, by omega, HQ2, by first | exact HBx | exact Lib.hid (below_drewN HBx.out _)⟩
              case measure => simp [RowKit.intOf]; omega
      · have dk : decide ((i : Int) < (ks.length : Int)) = false := decide_eq_false (by omega)
        have hq := HQi.out
        rw [List.drop_of_length_le (by omega)] at hq
        have hq : (decide (ks.length = n) && E) = Q := hq
        cases E with
        | false =>
          obtain rfl : Q = false := by rw [← hq]; simp
          clear hq
          go_wp2_with fail
          go_ret
          exact ⟨⟨false, rfl, fun _ => rfl⟩, by first | exact HBW.out | (rw [← hX]; exact HBW.out)⟩
        | true =>
          have hq : decide (ks.length = n) = Q := by simpa using hq
          by_cases hln : ks.length = n
          · rw [decide_eq_true hln] at hq
            subst hq
            have dl : ((ks.length : Int) == (n : Int)) = true := beq_iff_eq.2 (by omega)
            clear hln
            go_wp2_with fail
            go_ret
            exact ⟨⟨true, rfl, fun _ => rfl⟩, by first | exact HBW.out | (rw [← hX]; exact HBW.out)⟩
          · rw [decide_eq_false hln] at hq
            subst hq
            have dl : ((ks.length : Int) == (n : Int)) = false := beq_eq_false_iff_ne.2 (by omega)
            clear hln
            go_wp2_with fail
            go_ret
            exact ⟨⟨false, rfl, fun _ => rfl⟩, by first | exact HBW.out | (rw [← hX]; exact HBW.out)⟩
  have d6 : (k == 6) = false := beq_eq_false_iff_ne.2 h6
  have b6 : (k != 6) = true := bne_iff_ne.2 h6
  by_cases hk0 : 0 < ks.length
  · have dk0 : decide ((0 : Int) < (ks.length : Int)) = true := decide_eq_true (by omega)
    have hF : nodeF k s ks n = false := by
      unfold nodeF
      rw [decide_eq_true hk0]
      by_cases h5 : k = 5
      · rw [if_pos h5]; rfl
      · rw [if_neg h5, if_neg h6, if_pos (by simp)]
    rw [hF]
    clear hF
    go_enter Tryz.func166, Tryz.ntmps166
    go_upto_region 1 with fail
    clear hW1
    obtain ⟨b0, b1, b2, b3⟩ := HXB.out.cells
    simp only [VT.kind, VT.text, VT.items, VT.keys] at b0 b1 b2 b3
    go_wp2_with fail
    go_ret
    exact ⟨⟨false, rfl, fun _ => rfl⟩, by first | exact HB1.out | (rw [← hX]; exact HB1.out)⟩
  have dk0 : decide ((0 : Int) < (ks.length : Int)) = false := decide_eq_false (by omega)
  have dk1 : decide (0 < ks.length) = false := decide_eq_false hk0
  have hk00 : ks.length = 0 := by omega
  by_cases h5 : k = 5
  · subst h5
    rw [show nodeF 5 s ks n = (!decide (0 < ks.length) && s.isEmpty) from rfl, dk1]
    rw [hk00] at hW1 HXB ⊢
    clear hk0 dk0 dk1 hdl
    go_enter Tryz.func166, Tryz.ntmps166
    go_upto_region 1 with fail
    clear hW1
    obtain ⟨b0, b1, b2, b3⟩ := HXB.out.cells
    simp only [VT.kind, VT.text, VT.items, VT.keys] at b0 b1 b2 b3
    go_wp2_with fail
    go_ret
    exact ⟨⟨s.isEmpty, rfl, fun _ => by simp⟩, by first | exact HB1.out | (rw [← hX]; exact HB1.out)⟩
  have d5 : (k == 5) = false := beq_eq_false_iff_ne.2 h5
  have b5 : (k != 5) = true := bne_iff_ne.2 h5
  by_cases hn0 : 0 < n
  · have dn0 : decide ((0 : Int) < (n : Int)) = true := decide_eq_true (by omega)
    have hF : nodeF k s ks n = false := by
      unfold nodeF
      rw [if_neg h5, if_neg h6, decide_eq_true hn0, dk1, if_pos (by simp)]
    rw [hF]
    rw [hk00] at hW1 HXB ⊢
    clear hF hk0 dk0 dk1
    go_enter Tryz.func166, Tryz.ntmps166
    go_upto_region 1 with fail
    clear hW1
    obtain ⟨b0, b1, b2, b3⟩ := HXB.out.cells
    simp only [VT.kind, VT.text, VT.items, VT.keys] at b0 b1 b2 b3
    go_wp2_with fail
    go_ret
    exact ⟨⟨false, rfl, fun _ => rfl⟩, by first | exact HB1.out | (rw [← hX]; exact HB1.out)⟩
  have dn0 : decide ((0 : Int) < (n : Int)) = false := decide_eq_false (by omega)
  have hF : nodeF k s ks n = (if k = 1 then s.isEmpty else if k = 2 then decide (s = trueL) || decide (s = falseL) else if k = 3 then decB s else if k = 4 then Lib.validD s else false) := by
    unfold nodeF
    rw [if_neg h5, if_neg h6, decide_eq_false hn0, dk1, if_neg (by simp)]
  rw [hF]
  have hn00 : n = 0 := by omega
  subst hn00
  rw [hk00] at hW1 HXB ⊢
  clear hF hn0 hk0 dk0 dn0 dk1 h5 h6
  by_cases h1 : k = 1
  · subst h1
    rw [if_pos rfl]
    clear hdl
    go_enter Tryz.func166, Tryz.ntmps166
    go_upto_region 1 with fail
    clear hW1
    obtain ⟨b0, b1, b2, b3⟩ := HXB.out.cells
    simp only [VT.kind, VT.text, VT.items, VT.keys] at b0 b1 b2 b3
    go_wp2_with fail
    go_ret
    exact ⟨⟨s.isEmpty, rfl, fun _ => rfl⟩, by first | exact HB1.out | (rw [← hX]; exact HB1.out)⟩
  rw [if_neg h1]
  have d1 : (k == 1) = false := beq_eq_false_iff_ne.2 h1
  clear h1
  by_cases h2 : k = 2
  · subst h2
    rw [if_pos rfl]
    have q1 := str_lit s trueL
    have q2 := str_lit s falseL
    obtain ⟨A, hA⟩ : ∃ A, decide (s = trueL) = A := ⟨_, rfl⟩
    obtain ⟨B, hB⟩ : ∃ A, decide (s = falseL) = A := ⟨_, rfl⟩
    rw [hA] at q1 ⊢
    rw [hB] at q2 ⊢
    have hA : decide (s = [116, 114, 117, 101]) = A := hA
    have hB : decide (s = [102, 97, 108, 115, 101]) = B := hB
    unfold trueL at q1
    unfold falseL at q2
    clear e0 hdl
    cases A
    · go_enter Tryz.func166, Tryz.ntmps166
      go_upto_region 1 with fail
      clear hW1
      obtain ⟨b0, b1, b2, b3⟩ := HXB.out.cells
      simp only [VT.kind, VT.text, VT.items, VT.keys] at b0 b1 b2 b3
      go_wp2_with fail
      go_ret
      exact ⟨⟨B, rfl, fun _ => by simp⟩, by first | exact HB1.out | (rw [← hX]; exact HB1.out)⟩
    · go_enter Tryz.func166, Tryz.ntmps166
      go_upto_region 1 with fail
      clear hW1
      obtain ⟨b0, b1, b2, b3⟩ := HXB.out.cells
      simp only [VT.kind, VT.text, VT.items, VT.keys] at b0 b1 b2 b3
      go_wp2_with fail
      go_ret
      exact ⟨⟨true, rfl, fun _ => by simp⟩, by first | exact HB1.out | (rw [← hX]; exact HB1.out)⟩
  rw [if_neg h2]
  have d2 : (k == 2) = false := beq_eq_false_iff_ne.2 h2
  clear h2
  by_cases h3 : k = 3
  · subst h3
    rw [if_pos rfl]
    obtain ⟨D, hD⟩ : ∃ D, decB s = D := ⟨_, rfl⟩
    rw [hD] at CD ⊢
    clear hD hdl
    go_enter Tryz.func166, Tryz.ntmps166
    go_upto_region 1 with fail
    clear hW1
    obtain ⟨b0, b1, b2, b3⟩ := HXB.out.cells
    simp only [VT.kind, VT.text, VT.items, VT.keys] at b0 b1 b2 b3
    go_wp2_with fail
    refine (CD.out _ (Below.refl _ _)).mono ?_
    rintro e w2 ⟨rfl, hb2⟩
    have HB2 := Lib.hid (below_of_new HB1.out hb2)
    clear hb2 b0 b1 b2 b3
    go_wp2_with fail
    go_ret
    exact ⟨⟨D, rfl, fun _ => rfl⟩, by first | exact HB2.out | exact HB2.out.trans ((below_alloc1 _ _).mono HB2.out.size) | (rw [← hX]; exact HB2.out.trans ((below_alloc1 _ _).mono HB2.out.size))⟩
  rw [if_neg h3]
  have d3 : (k == 3) = false := beq_eq_false_iff_ne.2 h3
  clear h3
  by_cases h4 : k = 4
  · subst h4
    rw [if_pos rfl]
    obtain ⟨D, hD⟩ : ∃ D, Lib.validD s = D := ⟨_, rfl⟩
    rw [hD] at CU ⊢
    clear hD hdl
    go_enter Tryz.func166, Tryz.ntmps166
    go_upto_region 1 with fail
    clear hW1
    obtain ⟨b0, b1, b2, b3⟩ := HXB.out.cells
    simp only [VT.kind, VT.text, VT.items, VT.keys] at b0 b1 b2 b3
    go_wp2_with fail
    refine (CU.out _).mono ?_
    rintro e w2 ⟨rfl, hb2⟩
    have HB2 := Lib.hid (below_of_new HB1.out hb2)
    clear hb2 b0 b1 b2 b3
    go_wp2_with fail
    go_ret
    exact ⟨⟨D, rfl, fun _ => rfl⟩, by first | exact HB2.out | (rw [← hX]; exact HB2.out)⟩
  rw [if_neg h4]
  have d4 : (k == 4) = false := beq_eq_false_iff_ne.2 h4
  clear h4
  by_cases h7 : k = 7
  · subst h7
    have hpd := parse_dig s
    obtain ⟨⟨m, er⟩, hm⟩ : ∃ P, parseL s = P := ⟨_, rfl⟩
    have CI : Hid (∀ w, Calls Tryz.prog 216 #[.agg #[.bool m.neg, .string (bs m.dig), .int .i64 m.exp]] w fun e w' => e = intV m ∧ Below w.heap.size w w') := Lib.hid (fun w => refInt_any m w (by
      by_cases he : er = 0
      · rw [hm] at hpd
        have : (m, er).2 = 0 := he
        have := hpd this
        show m.dig.length ≤ _
        have e3 : (m, er).1 = m := rfl
        rw [e3] at this
        omega
      · have := parse_err hm he
        rw [this]
        decide))
    unfold intV at CI
    rw [hm] at CD
    obtain ⟨D, hD⟩ : ∃ D, decB s = D := ⟨_, rfl⟩
    rw [hD] at CD
    obtain ⟨⟨z, zb⟩, hz⟩ : ∃ Z, intL m = Z := ⟨_, rfl⟩
    rw [hz] at CI
    simp only [] at CD CI
    clear hD hdl hm hz hpd
    go_enter Tryz.func166, Tryz.ntmps166
    go_upto_region 1 with fail
    clear hW1
    obtain ⟨b0, b1, b2, b3⟩ := HXB.out.cells
    simp only [VT.kind, VT.text, VT.items, VT.keys] at b0 b1 b2 b3
    go_wp2_with fail
    refine (CD.out _ (Below.refl _ _)).mono ?_
    rintro e w2 ⟨rfl, hb2⟩
    have HB2 := Lib.hid (below_of_new HB1.out hb2)
    clear hb2 b0 b1 b2 b3
    obtain ⟨Y, hY⟩ : ∃ Y, w2.heap.size = Y := ⟨_, rfl⟩
    have a3 := below_alloc1 w2 (.cells #[.bool m.neg, .string (bs m.dig), .int .i64 m.exp] 80)
    have x3 := NbBox.new w2 m
    obtain ⟨W3, hW3⟩ : ∃ W, w2.alloc (.cells #[.bool m.neg, .string (bs m.dig), .int .i64 m.exp] 80) = W := ⟨_, rfl⟩
    rw [hW3] at a3 x3
    rw [hY] at x3
    have HB3 := Lib.hid (HB2.out.trans (a3.mono HB2.out.size))
    obtain ⟨c0, c1, c2, _⟩ := x3.cells
    clear a3
    go_wp2_with fail
    refine (CI.out _).mono ?_
    rintro e w4 ⟨rfl, hb4⟩
    have HB4 := Lib.hid (below_of_new HB3.out hb4)
    clear hb4 c0 c1 c2 x3
    cases D <;> cases zb
    · go_wp2_with fail
      go_ret
      exact ⟨⟨false, rfl, fun h => absurd rfl h⟩, by first | exact HB4.out | (rw [← hX]; exact HB4.out)⟩
    · go_wp2_with fail
      go_ret
      exact ⟨⟨false, rfl, fun h => absurd rfl h⟩, by first | exact HB4.out | (rw [← hX]; exact HB4.out)⟩
    · go_wp2_with fail
      go_ret
      exact ⟨⟨false, rfl, fun h => absurd rfl h⟩, by first | exact HB4.out | (rw [← hX]; exact HB4.out)⟩
    · go_wp2_with fail
      go_ret
      exact ⟨⟨_, rfl, fun h => absurd rfl h⟩, by first | exact HB4.out | (rw [← hX]; exact HB4.out)⟩
  have d7 : (k == 7) = false := beq_eq_false_iff_ne.2 h7
  clear h7
  go_enter Tryz.func166, Tryz.ntmps166
  go_upto_region 1 with fail
  clear hW1
  obtain ⟨b0, b1, b2, b3⟩ := HXB.out.cells
  simp only [VT.kind, VT.text, VT.items, VT.keys] at b0 b1 b2 b3
  go_wp2_with fail
  go_ret
  exact ⟨⟨false, rfl, fun _ => rfl⟩, by first | exact HB1.out | (rw [← hX]; exact HB1.out)⟩
end Go.Proofs.YtnnlpkbopeiefaaGreatDoor
/-! The reference's Size, Depth, nodes, Right. Printed by mktg.py. -/
namespace Go.Proofs.YtnnlpkbopeiefaaGreatDoor
set_option linter.unusedSimpArgs false
set_option linter.unusedVariables false
open Go.RowKit
open Go.Lib hiding intOf
theorem take_add {l : List VT} {i : Nat} {x : VT} (hx : l[i]? = some x) : l.take (i + 1) = l.take i ++ [x] := by
  obtain ⟨h1, h2⟩ := List.getElem?_eq_some_iff.1 hx
  rw [List.take_succ_eq_append_getElem h1, h2]
def RSz (n : Nat) : Prop := ∀ (t : VT) (kv iv : Value) (w : World), VD w n t kv iv → t.bulk ≤ 1073741824 →
    Calls Tryz.prog 109 #[vv t kv iv] w fun e w' => e = .returned (.int .i64 (t.size : Int)) ∧ Below w.heap.size w w'
set_option maxRecDepth 100000 in
set_option maxHeartbeats 1000000 in
theorem rsize_step (n : Nat) (IH : RSz n) : RSz (n + 1) := by
  intro t kv iv w h hbk
  obtain ⟨m', hm, ⟨pk, ck, rfl, hck, hlies⟩, p, c, rfl, hlc, hit⟩ := h.parts
  obtain rfl : n = m' := by omega
  obtain ⟨X, hX⟩ : ∃ X, w.heap.size = X := ⟨_, rfl⟩
  obtain ⟨W1, hW1⟩ : ∃ W, w.alloc (.cells #[.int .i64 t.kind, .string (bs t.text), .slice pk t.keys.length ck, .slice p t.items.length c] 25) = W := ⟨_, rfl⟩
  have HB1 : Hid (Below w.heap.size w W1) := Lib.hid (by rw [← hW1]; exact below_alloc1 _ _)
  have HXB : Hid (VBox W1 X t (.slice pk t.keys.length ck) (.slice p t.items.length c)) := Lib.hid (by rw [← hW1, ← hX]; exact VBox.new w t _ _)
  have HIT := Lib.hid (hit.keep HB1.out)
  have HSL := Lib.hid (hlies.keep HB1.out)
  have hb0 : t.bulk = t.text.length + (totS t.keys + t.keys.length) + bulks t.items + 1 := by cases t; rw [VT.bulk]; rfl
  have hlen := len_le_bulks t.items
  have hsz : t.size = sizes t.items + 1 := by cases t; rw [VT.size]; rfl
  have hsb := sizes_le_bulks t.items
  rw [hsz]
  unfold vv
  clear hit hlies h hm hsz
  go_enter Tryz.func109, Tryz.ntmps109
  go_upto_region 1 with fail
  clear hW1
  go_wp2_with fail
  go_loopw [3, 4] (fun s3 s4 wr => ∃ i : Nat, s3 = .int .i64 (((sizes (t.items.take i) + 1 : Nat)) : Int) ∧ s4 = .int .i64 (i : Int) ∧ i ≤ t.items.length ∧ Hid (Below W1.heap.size W1 wr)) (fun _ s4 _ => t.items.length - (RowKit.intOf s4).toNat)
  case atStart => exact ⟨0, by rw [List.take_zero]; rfl, rfl, Nat.zero_le _, Lib.hid (by first | exact Below.refl _ _ | exact (Below.refl _ _).drew)⟩
  case round =>
    obtain ⟨i, rfl, rfl, hi, HBr⟩ := hrel
    obtain ⟨b0, b1, b2, b3⟩ := (HXB.out.keep HBr.out).cells
    by_cases hil : i < t.items.length
    · obtain ⟨x, hx⟩ : ∃ x, t.items[i]? = some x := ⟨_, List.getElem?_eq_getElem hil⟩
      have hi1 : (i : Int) < (t.items.length : Int) := by omega
      have dk : decide ((i : Int) < (t.items.length : Int)) = true := decide_eq_true hi1
      have hxb := bulk_mem (List.mem_of_getElem? hx)
      obtain ⟨g, o, kv', iv', rfl, hg, n0, n1, n2, n3, hvd⟩ := HIT.out i x hx
      obtain ⟨pk2, ck2, px, cx, rfl, rfl⟩ := hvd.form
      have m0 : wr.cell? ⟨g, o + i * 4, none⟩ = some (.int .i64 x.kind) := by rw [HBr.out.cell (p := ⟨g, _, none⟩) hg]; exact n0
      have m1 : wr.cell? ⟨g, o + i * 4 + 1, none⟩ = some (.string (bs x.text)) := by rw [HBr.out.cell (p := ⟨g, _, none⟩) hg]; exact n1
      have m2 : wr.cell? ⟨g, o + i * 4 + 2, none⟩ = some (.slice pk2 x.keys.length ck2) := by rw [HBr.out.cell (p := ⟨g, _, none⟩) hg]; exact n2
      have m3 : wr.cell? ⟨g, o + i * 4 + 3, none⟩ = some (.slice px x.items.length cx) := by rw [HBr.out.cell (p := ⟨g, _, none⟩) hg]; exact n3
      have HC := Lib.hid (IH x _ _ wr (hvd.keep HBr.out) (by omega))
      unfold vv at HC
      obtain ⟨S, hS⟩ : ∃ S, sizes (t.items.take i) = S := ⟨_, rfl⟩
      have hn : sizes (t.items.take (i + 1)) = S + x.size := by rw [take_add hx, sizes_app, hS]; simp [sizes]
      have hle : S + x.size ≤ sizes t.items := by
        have : sizes t.items = sizes (t.items.take (i + 1)) + sizes (t.items.drop (i + 1)) := by rw [← sizes_app, List.take_append_drop]
        omega
      have HN := Lib.hid hn
      rw [hS]
      clear hx hvd n0 n1 n2 n3 hn hS
      go_wp2_with fail
      refine HC.out.mono ?_
      rintro e w2 ⟨rfl, hb2⟩
      have HB2 := Lib.hid (below_of_new HBr.out hb2)
      clear hb2 b0 b1 b2 b3 m0 m1 m2 m3 HC
      go_wp2_with fail
      go_roundw
      case rel => exact ⟨i + 1, by rw [HN.out]; go_num, by go_num, by omega, by first | exact HB2 | exact Lib.hid (below_drewN HB2.out _)⟩
      case measure => simp [RowKit.intOf]; omega
    · have dk : decide ((i : Int) < (t.items.length : Int)) = false := decide_eq_false (by omega)
      obtain rfl : i = t.items.length := by omega
      rw [List.take_length]
      have HB2 := Lib.hid (below_of_new HB1.out HBr.out)
      go_wp2_with fail
      go_ret
      exact ⟨by first | rfl | simp, by first | exact HB2.out | (rw [← hX]; exact HB2.out)⟩
theorem rsize_any : ∀ n, RSz n
  | 0 => fun _ _ _ _ h => h.elim
  | n + 1 => rsize_step n (rsize_any n)
def RDp (n : Nat) : Prop := ∀ (t : VT) (kv iv : Value) (w : World), VD w n t kv iv → t.bulk ≤ 1073741824 →
    Calls Tryz.prog 110 #[vv t kv iv] w fun e w' => e = .returned (.int .i64 (t.depth : Int)) ∧ Below w.heap.size w w'
set_option maxRecDepth 100000 in
set_option maxHeartbeats 1000000 in
theorem rdepth_step (n : Nat) (IH : RDp n) : RDp (n + 1) := by
  intro t kv iv w h hbk
  obtain ⟨m', hm, ⟨pk, ck, rfl, hck, hlies⟩, p, c, rfl, hlc, hit⟩ := h.parts
  obtain rfl : n = m' := by omega
  obtain ⟨X, hX⟩ : ∃ X, w.heap.size = X := ⟨_, rfl⟩
  obtain ⟨W1, hW1⟩ : ∃ W, w.alloc (.cells #[.int .i64 t.kind, .string (bs t.text), .slice pk t.keys.length ck, .slice p t.items.length c] 25) = W := ⟨_, rfl⟩
  have HB1 : Hid (Below w.heap.size w W1) := Lib.hid (by rw [← hW1]; exact below_alloc1 _ _)
  have HXB : Hid (VBox W1 X t (.slice pk t.keys.length ck) (.slice p t.items.length c)) := Lib.hid (by rw [← hW1, ← hX]; exact VBox.new w t _ _)
  have HIT := Lib.hid (hit.keep HB1.out)
  have HSL := Lib.hid (hlies.keep HB1.out)
  have hb0 : t.bulk = t.text.length + (totS t.keys + t.keys.length) + bulks t.items + 1 := by cases t; rw [VT.bulk]; rfl
  have hlen := len_le_bulks t.items
  have hsz : t.depth = depths t.items + 1 := by cases t; rw [VT.depth]; rfl
  have hsb := depths_le_bulks t.items
  rw [hsz]
  unfold vv
  clear hit hlies h hm hsz
  go_enter Tryz.func110, Tryz.ntmps110
  go_upto_region 1 with fail
  clear hW1
  go_wp2_with fail
  go_loopw [3, 4] (fun s3 s4 wr => ∃ i : Nat, s3 = .int .i64 (depths (t.items.take i) : Int) ∧ s4 = .int .i64 (i : Int) ∧ i ≤ t.items.length ∧ Hid (Below W1.heap.size W1 wr)) (fun _ s4 _ => t.items.length - (RowKit.intOf s4).toNat)
  case atStart => exact ⟨0, by rw [List.take_zero]; rfl, rfl, Nat.zero_le _, Lib.hid (by first | exact Below.refl _ _ | exact (Below.refl _ _).drew)⟩
  case round =>
    obtain ⟨i, rfl, rfl, hi, HBr⟩ := hrel
    obtain ⟨b0, b1, b2, b3⟩ := (HXB.out.keep HBr.out).cells
    by_cases hil : i < t.items.length
    · obtain ⟨x, hx⟩ : ∃ x, t.items[i]? = some x := ⟨_, List.getElem?_eq_getElem hil⟩
      have hi1 : (i : Int) < (t.items.length : Int) := by omega
      have dk : decide ((i : Int) < (t.items.length : Int)) = true := decide_eq_true hi1
      have hxb := bulk_mem (List.mem_of_getElem? hx)
      obtain ⟨g, o, kv', iv', rfl, hg, n0, n1, n2, n3, hvd⟩ := HIT.out i x hx
      obtain ⟨pk2, ck2, px, cx, rfl, rfl⟩ := hvd.form
      have m0 : wr.cell? ⟨g, o + i * 4, none⟩ = some (.int .i64 x.kind) := by rw [HBr.out.cell (p := ⟨g, _, none⟩) hg]; exact n0
      have m1 : wr.cell? ⟨g, o + i * 4 + 1, none⟩ = some (.string (bs x.text)) := by rw [HBr.out.cell (p := ⟨g, _, none⟩) hg]; exact n1
      have m2 : wr.cell? ⟨g, o + i * 4 + 2, none⟩ = some (.slice pk2 x.keys.length ck2) := by rw [HBr.out.cell (p := ⟨g, _, none⟩) hg]; exact n2
      have m3 : wr.cell? ⟨g, o + i * 4 + 3, none⟩ = some (.slice px x.items.length cx) := by rw [HBr.out.cell (p := ⟨g, _, none⟩) hg]; exact n3
      have HC := Lib.hid (IH x _ _ wr (hvd.keep HBr.out) (by omega))
      unfold vv at HC
      obtain ⟨S, hS⟩ : ∃ S, depths (t.items.take i) = S := ⟨_, rfl⟩
      have hn : depths (t.items.take (i + 1)) = max S x.depth := by rw [take_add hx, depths_app, hS]; simp [depths]
      have HN := Lib.hid hn
      rw [hS]
      clear hx hvd n0 n1 n2 n3 hn hS
      go_wp2_with fail
      refine HC.out.mono ?_
      rintro e w2 ⟨rfl, hb2⟩
      have HB2 := Lib.hid (below_of_new HBr.out hb2)
      clear hb2 b0 b1 b2 b3 m0 m1 m2 m3 HC
      go_wp2_with fail
      go_roundw
      case rel => exact ⟨i + 1, by rw [HN.out]; first | rfl | (congr 1; omega) | (simp; omega), by go_num, by omega, by first | exact HB2 | exact Lib.hid (below_drewN HB2.out _)⟩
      case measure => simp [RowKit.intOf]; omega
    · have dk : decide ((i : Int) < (t.items.length : Int)) = false := decide_eq_false (by omega)
      obtain rfl : i = t.items.length := by omega
      rw [List.take_length]
      have HB2 := Lib.hid (below_of_new HB1.out HBr.out)
      go_wp2_with fail
      go_ret
      exact ⟨by first | rfl | simp, by first | exact HB2.out | (rw [← hX]; exact HB2.out)⟩
theorem rdepth_any : ∀ n, RDp n
  | 0 => fun _ _ _ _ h => h.elim
  | n + 1 => rdepth_step n (rdepth_any n)
def RNd (n : Nat) : Prop := ∀ (t : VT) (kv iv : Value) (w : World), VD w n t kv iv → t.bulk ≤ 1073741824 → VVar w →
    Calls Tryz.prog 111 #[vv t kv iv, .bool false] w fun e w' => e = .returned (.bool (everyB rnodeB t)) ∧ Below w.heap.size w w'
theorem rnode_yes {k : Int} {R r : Bool} (h : k ≠ 7 → r = R) (h7 : k ≠ 7) : r = R := h h7
theorem everyL_take {p : VT → Bool} {l : List VT} {i : Nat} {x : VT} (hx : l[i]? = some x) : everyL p (l.take (i + 1)) = (everyL p (l.take i) && everyB p x) := by
  rw [everyL_eq, everyL_eq, take_add hx, List.all_append]
  simp
set_option maxRecDepth 100000 in
set_option maxHeartbeats 1000000 in
theorem rnodes_step (n : Nat) (IH : RNd n) : RNd (n + 1) := by
  intro t kv iv w h hbk hV
  obtain ⟨m', hm, ⟨pk, ck, rfl, hck, hlies⟩, p, c, rfl, hlc, hit⟩ := h.parts
  obtain rfl : n = m' := by omega
  obtain ⟨X, hX⟩ : ∃ X, w.heap.size = X := ⟨_, rfl⟩
  obtain ⟨W1, hW1⟩ : ∃ W, w.alloc (.cells #[.int .i64 t.kind, .string (bs t.text), .slice pk t.keys.length ck, .slice p t.items.length c] 25) = W := ⟨_, rfl⟩
  have HB1 : Hid (Below w.heap.size w W1) := Lib.hid (by rw [← hW1]; exact below_alloc1 _ _)
  have HXB : Hid (VBox W1 X t (.slice pk t.keys.length ck) (.slice p t.items.length c)) := Lib.hid (by rw [← hW1, ← hX]; exact VBox.new w t _ _)
  have HIT := Lib.hid (hit.keep HB1.out)
  have HSL := Lib.hid (hlies.keep HB1.out)
  have hb0 : t.bulk = t.text.length + (totS t.keys + t.keys.length) + bulks t.items + 1 := by cases t; rw [VT.bulk]; rfl
  have hlen := len_le_bulks t.items
  have HV := Lib.hid (hV.keep HB1.out)
  have HCN := Lib.hid (rnode_any t (.slice pk t.keys.length ck) p c W1 ⟨pk, ck, rfl, hck, HSL.out⟩ hbk HV.out)
  have hev : everyB rnodeB t = (rnodeB t && everyL rnodeB t.items) := by cases t; rw [everyB]; rfl
  have hrn : rnodeB t = (decide (t.kind ≠ 7) && nodeB t) := rfl
  obtain ⟨N, hN⟩ : ∃ N, nodeB t = N := ⟨_, rfl⟩
  rw [hN] at HCN hrn
  rw [hev]
  have HRN := Lib.hid hrn
  obtain ⟨Q, hZ⟩ : ∃ Z, (rnodeB t && everyL rnodeB t.items) = Z := ⟨_, rfl⟩
  rw [hZ]
  have HZ := Lib.hid hZ
  clear hZ
  have HEL : Hid ((everyL rnodeB t.items = true) ∨ ∃ (i : Nat) (x : VT), t.items[i]? = some x ∧ everyB rnodeB x = false) := Lib.hid (by
    by_cases hh : everyL rnodeB t.items = true
    · exact .inl hh
    · right
      rw [everyL_eq, List.all_eq_true] at hh
      obtain ⟨x, hx⟩ := Classical.not_forall.1 hh
      obtain ⟨hm, hb⟩ := Classical.not_imp.1 hx
      obtain ⟨i, hi⟩ := List.getElem?_of_mem hm
      exact ⟨i, x, hi, by simpa using hb⟩)
  unfold vv at HCN ⊢
  clear hit hlies h hm hev hrn hN hV
  go_enter Tryz.func111, Tryz.ntmps111
  go_upto_region 1 with fail
  clear hW1
  obtain ⟨b0, b1, b2, b3⟩ := HXB.out.cells
  go_wp2_with fail
  refine HCN.out.mono ?_
  rintro e w2 ⟨⟨r, rfl, hr⟩, hb2⟩
  have HB2 := Lib.hid hb2
  have HRR := Lib.hid hr
  clear hb2 b0 b1 b2 b3 HCN hr
  obtain ⟨b0, b1, b2, b3⟩ := (HXB.out.keep HB2.out).cells
  have HBB := Lib.hid (below_of_new HB1.out HB2.out)
  by_cases h7 : t.kind = 7
  · have d7 : (t.kind == 7) = true := beq_iff_eq.2 h7
    have hF : rnodeB t = false := by rw [HRN.out, decide_eq_false (by simpa using h7)]; rfl
    obtain rfl : Q = false := by rw [← HZ.out, hF, Bool.false_and]
    clear hF h7
    cases r
    · go_wp2_with fail
      go_ret
      exact ⟨rfl, by first | exact HBB.out | (rw [← hX]; exact HBB.out)⟩
    · go_wp2_with fail
      go_ret
      exact ⟨rfl, by first | exact HBB.out | (rw [← hX]; exact HBB.out)⟩
  have d7 : (t.kind == 7) = false := beq_eq_false_iff_ne.2 h7
  obtain rfl := HRR.out h7
  have hR : rnodeB t = r := by rw [HRN.out, decide_eq_true (by simpa using h7)]; rfl
  have HZ2 : Hid ((r && everyL rnodeB t.items) = Q) := Lib.hid (by rw [← hR]; exact HZ.out)
  clear hR h7
  cases r with
  | false =>
    obtain rfl : Q = false := by rw [← HZ2.out, Bool.false_and]
    go_wp2_with fail
    go_ret
    exact ⟨rfl, by first | exact HBB.out | (rw [← hX]; exact HBB.out)⟩
  | true =>
  have HQ : Hid (everyL rnodeB t.items = Q) := Lib.hid (by rw [← HZ2.out, Bool.true_and])
  go_wp2_with fail
  clear b0 b1 b2 b3
  go_loopw [6, 7] (fun s6 s7 wr => ∃ i : Nat, s6 = .int .i64 (i : Int) ∧ i ≤ t.items.length ∧ Hid (everyL rnodeB (t.items.take i) = true) ∧ Hid (Below W1.heap.size W1 wr)) (fun s6 _ _ => t.items.length - (RowKit.intOf s6).toNat)
  case atStart => exact ⟨0, rfl, Nat.zero_le _, Lib.hid (by rw [List.take_zero]; rfl), HB2⟩
  case round =>
    obtain ⟨i, rfl, hi, HE, HBr⟩ := hrel
    obtain ⟨b0, b1, b2, b3⟩ := (HXB.out.keep HBr.out).cells
    by_cases hil : i < t.items.length
    · obtain ⟨x, hx⟩ : ∃ x, t.items[i]? = some x := ⟨_, List.getElem?_eq_getElem hil⟩
      have hi1 : (i : Int) < (t.items.length : Int) := by omega
      have dk : decide ((i : Int) < (t.items.length : Int)) = true := decide_eq_true hi1
      have hxb := bulk_mem (List.mem_of_getElem? hx)
      obtain ⟨g, o, kv', iv', rfl, hg, n0, n1, n2, n3, hvd⟩ := HIT.out i x hx
      obtain ⟨pk2, ck2, px, cx, rfl, rfl⟩ := hvd.form
      have m0 : wr.cell? ⟨g, o + i * 4, none⟩ = some (.int .i64 x.kind) := by rw [HBr.out.cell (p := ⟨g, _, none⟩) hg]; exact n0
      have m1 : wr.cell? ⟨g, o + i * 4 + 1, none⟩ = some (.string (bs x.text)) := by rw [HBr.out.cell (p := ⟨g, _, none⟩) hg]; exact n1
      have m2 : wr.cell? ⟨g, o + i * 4 + 2, none⟩ = some (.slice pk2 x.keys.length ck2) := by rw [HBr.out.cell (p := ⟨g, _, none⟩) hg]; exact n2
      have m3 : wr.cell? ⟨g, o + i * 4 + 3, none⟩ = some (.slice px x.items.length cx) := by rw [HBr.out.cell (p := ⟨g, _, none⟩) hg]; exact n3
      have HC := Lib.hid (IH x _ _ wr (hvd.keep HBr.out) (by omega) (HV.out.keep HBr.out))
      unfold vv at HC
      have HET := Lib.hid (everyL_take (p := rnodeB) hx)
      have hxm := List.mem_of_getElem? hx
      obtain ⟨y, hy⟩ : ∃ y, everyB rnodeB x = y := ⟨_, rfl⟩
      rw [hy] at HC HET
      have HFA : Hid (y = false → Q = false) := Lib.hid (fun h => by
        rw [← HQ.out, ← Bool.not_eq_true, everyL_eq, List.all_eq_true]
        intro hh
        have := hh x hxm
        rw [hy, h] at this
        cases this)
      clear hx hvd n0 n1 n2 n3 hy hxm
      go_wp2_with fail
      refine HC.out.mono ?_
      rintro e w3 ⟨rfl, hb3⟩
      have HB3 := Lib.hid (below_of_new HBr.out hb3)
      clear hb3 b0 b1 b2 b3 m0 m1 m2 m3 HC
      cases y with
      | false =>
        obtain rfl := HFA.out rfl
        have HB4 := Lib.hid (below_of_new HB1.out HB3.out)
        go_wp2_with fail
        go_ret
        exact ⟨rfl, by first | exact HB4.out | (rw [← hX]; exact HB4.out)⟩
      | true =>
        have HE2 : Hid (everyL rnodeB (t.items.take (i + 1)) = true) := Lib.hid (by rw [HET.out, HE.out]; rfl)
        go_wp2_with fail
        go_roundw
        case rel => exact ⟨i + 1, by go_num, by omega, HE2, by first | exact HB3 | exact Lib.hid (below_drewN HB3.out _)⟩
        case measure => simp [RowKit.intOf]; omega
    · have dk : decide ((i : Int) < (t.items.length : Int)) = false := decide_eq_false (by omega)
      obtain rfl : i = t.items.length := by omega
      obtain rfl : Q = true := by
        have := HE.out
        rw [List.take_length, HQ.out] at this
        exact this
      have HB3 := Lib.hid (below_of_new HB1.out HBr.out)
      go_wp2_with fail
      go_ret
      exact ⟨rfl, by first | exact HB3.out | (rw [← hX]; exact HB3.out)⟩
theorem rnodes_any : ∀ n, RNd n
  | 0 => fun _ _ _ _ h => h.elim
  | n + 1 => rnodes_step n (rnodes_any n)
set_option maxRecDepth 100000 in
set_option maxHeartbeats 1000000 in
theorem rright_any (n : Nat) (t : VT) (kv iv : Value) (w : World) (h : VD w n t kv iv) (hbk : t.bulk ≤ 1073741824) (hV : VVar w) :
    Calls Tryz.prog 58 #[vv t kv iv] w fun e w' => e = .returned (.bool (RightB t)) ∧ Below w.heap.size w w' := by
  obtain ⟨pk, ck, p, c, rfl, rfl⟩ := h.form
  obtain ⟨X, hX⟩ : ∃ X, w.heap.size = X := ⟨_, rfl⟩
  obtain ⟨W1, hW1⟩ : ∃ W, w.alloc (.cells #[.int .i64 t.kind, .string (bs t.text), .slice pk t.keys.length ck, .slice p t.items.length c] 25) = W := ⟨_, rfl⟩
  have HB1 : Hid (Below w.heap.size w W1) := Lib.hid (by rw [← hW1]; exact below_alloc1 _ _)
  have HXB : Hid (VBox W1 X t (.slice pk t.keys.length ck) (.slice p t.items.length c)) := Lib.hid (by rw [← hW1, ← hX]; exact VBox.new w t _ _)
  have HVD := Lib.hid (h.keep HB1.out)
  have HV := Lib.hid (hV.keep HB1.out)
  have C1 := Lib.hid (rsize_any n t _ _ W1 HVD.out hbk)
  have C2 : Hid (∀ w', Below W1.heap.size W1 w' → Calls Tryz.prog 110 #[vv t (.slice pk t.keys.length ck) (.slice p t.items.length c)] w' fun e w2 => e = .returned (.int .i64 (t.depth : Int)) ∧ Below w'.heap.size w' w2) := Lib.hid (fun w' hb => rdepth_any n t _ _ w' (HVD.out.keep hb) hbk)
  have C3 : Hid (∀ w', Below W1.heap.size W1 w' → Calls Tryz.prog 111 #[vv t (.slice pk t.keys.length ck) (.slice p t.items.length c), .bool false] w' fun e w2 => e = .returned (.bool (everyB rnodeB t)) ∧ Below w'.heap.size w' w2) := Lib.hid (fun w' hb => rnodes_any n t _ _ w' (HVD.out.keep hb) hbk (HV.out.keep hb))
  unfold vv at C1 C2 C3 ⊢
  unfold RightB
  obtain ⟨S, hS⟩ : ∃ S, t.size = S := ⟨_, rfl⟩
  obtain ⟨D, hD⟩ : ∃ S, t.depth = S := ⟨_, rfl⟩
  obtain ⟨E, hE⟩ : ∃ S, everyB rnodeB t = S := ⟨_, rfl⟩
  rw [hS] at C1 ⊢
  rw [hD] at C2 ⊢
  rw [hE] at C3 ⊢
  obtain ⟨Z, hZ⟩ : ∃ Z, (decide (S ≤ 4096) && decide (D ≤ 32) && E) = Z := ⟨_, rfl⟩
  rw [hZ]
  have HZ := Lib.hid hZ
  clear h hV hS hD hE hZ
  go_enter Tryz.func58, Tryz.ntmps58
  go_upto_region 1 with fail
  clear hW1
  obtain ⟨b0, b1, b2, b3⟩ := HXB.out.cells
  by_cases h1 : S ≤ 4096
  · have d1 : decide ((S : Int) ≤ 4096) = true := decide_eq_true (by omega)
    by_cases h2 : D ≤ 32
    · have d2 : decide ((D : Int) ≤ 32) = true := decide_eq_true (by omega)
      obtain rfl : E = Z := by rw [← HZ.out, decide_eq_true h1, decide_eq_true h2]; simp
      go_wp2_with fail
      refine C1.out.mono ?_
      rintro e w2 ⟨rfl, hb2⟩
      have HB2 := Lib.hid hb2
      clear hb2 b0 b1 b2 b3
      obtain ⟨b0, b1, b2, b3⟩ := (HXB.out.keep HB2.out).cells
      go_wp2_with fail
      refine (C2.out _ HB2.out).mono ?_
      rintro e w3 ⟨rfl, hb3⟩
      have HB3 := Lib.hid (below_of_new HB2.out hb3)
      clear hb3 b0 b1 b2 b3
      obtain ⟨b0, b1, b2, b3⟩ := (HXB.out.keep HB3.out).cells
      go_wp2_with fail
      refine (C3.out _ HB3.out).mono ?_
      rintro e w4 ⟨rfl, hb4⟩
      have HB4 := Lib.hid (below_of_new HB1.out (below_of_new HB3.out hb4))
      clear hb4 b0 b1 b2 b3
      go_wp2_with fail
      go_ret
      exact ⟨rfl, by first | exact HB4.out | (rw [← hX]; exact HB4.out)⟩
    · have d2 : decide ((D : Int) ≤ 32) = false := decide_eq_false (by omega)
      obtain rfl : Z = false := by rw [← HZ.out, decide_eq_false h2]; simp
      go_wp2_with fail
      refine C1.out.mono ?_
      rintro e w2 ⟨rfl, hb2⟩
      have HB2 := Lib.hid hb2
      clear hb2 b0 b1 b2 b3
      obtain ⟨b0, b1, b2, b3⟩ := (HXB.out.keep HB2.out).cells
      go_wp2_with fail
      refine (C2.out _ HB2.out).mono ?_
      rintro e w3 ⟨rfl, hb3⟩
      have HB3 := Lib.hid (below_of_new HB1.out (below_of_new HB2.out hb3))
      clear hb3 b0 b1 b2 b3
      go_wp2_with fail
      go_ret
      exact ⟨rfl, by first | exact HB3.out | (rw [← hX]; exact HB3.out)⟩
  · have d1 : decide ((S : Int) ≤ 4096) = false := decide_eq_false (by omega)
    obtain rfl : Z = false := by rw [← HZ.out, decide_eq_false h1]; simp
    go_wp2_with fail
    refine C1.out.mono ?_
    rintro e w2 ⟨rfl, hb2⟩
    have HB2 := Lib.hid (below_of_new HB1.out hb2)
    clear hb2 b0 b1 b2 b3
    go_wp2_with fail
    go_ret
    exact ⟨rfl, by first | exact HB2.out | (rw [← hX]; exact HB2.out)⟩
end Go.Proofs.YtnnlpkbopeiefaaGreatDoor
