import Derived.Test.YtnnlpkbopeiefaaGreatDoorYpM
import Derived.Test.YtnnlpkbopeiefaaGreatDoorWl
import Derived.Laws.Bits128
/-! The walk of YprintNests. -/
namespace Go.Proofs.YtnnlpkbopeiefaaGreatDoor
set_option linter.unusedSimpArgs false
set_option linter.unusedVariables false
open Go.RowKit
open Go.Lib hiding intOf
theorem and_mask (n : Int) (k : Nat) (hk : k ≤ 32) (m : Int) (hm : m = ((2 ^ k - 1 : Nat) : Int)) : bits .and .i64 n m = n % ((2 ^ k : Nat) : Int) := by
  subst hm
  have h2 : (2 ^ k : Nat) ≤ 2 ^ 32 := Nat.pow_le_pow_right (by omega) hk
  have h1 : 1 ≤ (2 ^ k : Nat) := Nat.one_le_two_pow
  have hp : (BitVec.ofInt 64 ((2 ^ k - 1 : Nat) : Int)).toNat = 2 ^ k - 1 := by
    rw [BitVec.toNat_ofInt]
    generalize (2 ^ k : Nat) = p at h2 h1 ⊢
    omega
  have key : (BitVec.ofInt 64 n &&& BitVec.ofInt 64 ((2 ^ k - 1 : Nat) : Int)).toNat = (n % ((2 ^ 64 : Nat) : Int)).toNat % 2 ^ k := by
    rw [BitVec.toNat_and, BitVec.toNat_ofInt, hp, Nat.and_two_pow_sub_one_eq_mod]
  show IntKind.i64.wrap ((BitVec.ofInt 64 n &&& BitVec.ofInt 64 ((2 ^ k - 1 : Nat) : Int)).toNat : Nat) = _
  have hd : (2 ^ k : Nat) ∣ 2 ^ 64 := Nat.pow_dvd_pow 2 (by omega)
  have hm : (n % ((2 ^ 64 : Nat) : Int)).toNat % 2 ^ k = (n % ((2 ^ k : Nat) : Int)).toNat := by
    have e : (((n % ((2 ^ 64 : Nat) : Int)).toNat % 2 ^ k : Nat) : Int) = n % ((2 ^ k : Nat) : Int) := by
      rw [Int.natCast_emod, Int.toNat_of_nonneg (by omega)]
      exact Int.emod_emod_of_dvd n (Int.natCast_dvd_natCast.2 hd)
    omega
  rw [key, hm, IntKind.wrap_i64]
  have hlt : n % ((2 ^ k : Nat) : Int) < ((2 ^ k : Nat) : Int) := Int.emod_lt_of_pos _ (by omega)
  have h0 : 0 ≤ n % ((2 ^ k : Nat) : Int) := Int.emod_nonneg _ (by omega)
  generalize n % ((2 ^ k : Nat) : Int) = q at hlt h0 ⊢
  generalize (2 ^ k : Nat) = p at h2 hlt ⊢
  omega
theorem and127_i64 (n : Int) : bits .and .i64 n 127 = n % 128 := and_mask n 7 (by omega) 127 rfl
theorem VD.one {w : World} {n K : Nat} {x : VT} {xk xi kv : Value} {k : Int} {s : Stp} {ks : List Stp} (hks : SV w kv ks) (h : w.heap[K]? = some (.cells #[.int .i64 x.kind, .string (bs x.text), xk, xi] 25)) (hx : VD w n x xk xi) :
    VD w (n + 1) (.mk k s ks [x]) kv (.slice (some ⟨K, 0, none⟩) 1 1) := by
  refine ⟨hks, some ⟨K, 0, none⟩, 1, rfl, Nat.le_refl _, .inr ⟨K, 0, rfl, cell_it h, fun j z hz => ?_⟩⟩
  have hz : [x][j]? = some z := hz
  match j, hz with
  | 0, hz =>
    obtain rfl : x = z := by simpa using hz
    exact ⟨xk, xi, by simp [World.cell?, h], by simp [World.cell?, h], by simp [World.cell?, h], by simp [World.cell?, h], hx⟩
  | j + 1, hz => simp at hz
theorem SV.one {w : World} {K : Nat} {x : Stp} (h : w.heap[K]? = some (.cells #[.string (bs x)] 9)) : SV w (.slice (some ⟨K, 0, none⟩) 1 1) [x] := by
  refine ⟨some ⟨K, 0, none⟩, 1, rfl, Nat.le_refl _, .inr ⟨K, 0, rfl, cell_it h, fun j z hz => ?_⟩⟩
  match j, hz with
  | 0, hz =>
    obtain rfl : x = z := by simpa using hz
    simp [World.cell?, h]
  | j + 1, hz => simp at hz
theorem SV.nil_ (w : World) : SV w (.slice none 0 0) [] := ⟨none, 0, rfl, Nat.le_refl _, .inl rfl⟩
/-! Plain. -/
theorem cnt_no {s : Stp} (h : (10 : UInt8) ∉ s) : s.count 10 = 0 := List.count_eq_zero.2 h
mutual
theorem ybeh_more : ∀ (t : VT) (R ind : Nat), everyB rnodeB t = true → (ybehL t (ind + R)).length + R = (ybehL t ind).length + R * (ybehL t ind).count 10
  | .mk k s ks l, R, ind, he => by
    have hn := every_node he
    rw [ybehL, ybehL]
    split
    · rename_i hl
      have hl' : l = [] := by cases l with | nil => rfl | cons x l => cases hl
      have hw := cnt_no (write_no (t := .mk k s ks l) hn.1 hl')
      rw [List.count_cons_of_ne (by decide), List.count_append, hw, List.count_singleton_self]
      omega
    · rw [List.count_cons_self]
      have e0 : ind + R + 2 = ind + 2 + R := by omega
      rw [e0]
      split
      · have := ymem_more l ks R (ind + 2) hn.2
        simp only [List.length_cons]
        rw [Nat.mul_add, Nat.mul_one]
        omega
      · have := yitem_more l R (ind + 2) hn.2
        simp only [List.length_cons]
        rw [Nat.mul_add, Nat.mul_one]
        omega
theorem yitem_more : ∀ (l : List VT) (R ind : Nat), everyL rnodeB l = true → (yitemL l (ind + R)).length = (yitemL l ind).length + R * (yitemL l ind).count 10
  | [], R, ind, _ => by rw [yitemL, yitemL]; simp
  | x :: l, R, ind, he => by
    rw [everyL, Bool.and_eq_true] at he
    have h1 := ybeh_more x R ind he.1
    have h2 := yitem_more l R ind he.2
    rw [yitemL, yitemL]
    have e1 : (List.replicate ind (32 : UInt8) ++ [45] ++ ybehL x ind ++ yitemL l ind).count 10 = (ybehL x ind).count 10 + (yitemL l ind).count 10 := by
      rw [List.count_append, List.count_append, List.count_append, List.count_replicate]
      simp
    rw [e1, Nat.mul_add]
    simp only [List.length_append, List.length_replicate, List.length_singleton]
    omega
theorem ymem_more : ∀ (l : List VT) (ks : List Stp) (R ind : Nat), everyL rnodeB l = true → (ymemL l ks (ind + R)).length = (ymemL l ks ind).length + R * (ymemL l ks ind).count 10
  | [], ks, R, ind, _ => by rw [ymemL, ymemL]; simp
  | x :: l, ks, R, ind, he => by
    rw [everyL, Bool.and_eq_true] at he
    have h1 := ybeh_more x R ind he.1
    have h2 := ymem_more l ks.tail R ind he.2
    have h3 := cnt_no (keyY_no (ks.headD []))
    rw [ymemL, ymemL]
    have e1 : (List.replicate ind (32 : UInt8) ++ ((keyY (ks.headD [])).1 ++ [58]) ++ ybehL x ind ++ ymemL l ks.tail ind).count 10 = (ybehL x ind).count 10 + (ymemL l ks.tail ind).count 10 := by
      rw [List.count_append, List.count_append, List.count_append, List.count_append, List.count_replicate, h3]
      simp
    rw [e1, Nat.mul_add]
    simp only [List.length_append, List.length_replicate, List.length_singleton]
    omega
end
/-- How much longer an item is that stands deeper. -/
theorem item_more {t : VT} {R : Nat} (h : RightB t = true) (hR : R ≤ 256) : (itemP t R).1.length = (itemP t 0).1.length + R * (itemP t 0).1.count 10 ∧ (itemP t R).2 = 0 ∧ (itemP t 0).2 = 0 := by
  have f1 : fitsB t (R : Int) = true := by unfold fitsB; rw [h]; simp; omega
  have f0 : fitsB t 0 = true := by unfold fitsB; rw [h]; simp
  unfold itemP
  rw [if_pos f1, if_pos f0]
  refine ⟨?_, rfl, rfl⟩
  have h1 := ybeh_more t R 0 (right_every h)
  rw [Nat.zero_add] at h1
  simp only [Int.toNat_natCast, Int.toNat_zero, List.replicate_zero, List.nil_append, List.count_append, List.length_append, List.length_replicate, List.length_singleton]
  have e1 : List.count (10 : UInt8) [45] = 0 := by decide
  rw [e1, Nat.zero_add]
  omega
theorem item_bad {t : VT} {R : Nat} (h : RightB t = false) : itemP t R = ([], 1) ∧ itemP t 0 = ([], 1) := by
  have f1 : fitsB t (R : Int) = false := by unfold fitsB; rw [h]; rfl
  have f0 : fitsB t 0 = false := by unfold fitsB; rw [h]; rfl
  unfold itemP
  rw [f1, f0]
  exact ⟨rfl, rfl⟩
/-- An object of one member is that member, an array of one item that item. -/
theorem one_member (key : Stp) (t : VT) (R : Nat) : (blockP (.mk 6 [] [key] [t]) R).2 = 0 → memberP key t R = ((blockP (.mk 6 [] [key] [t]) R).1, 0) := by
  unfold blockP
  split
  · rename_i h
    rw [Bool.and_eq_true] at h
    intro _
    have h1 : fitsB t (R : Int) = true := fits_item h.1 (show t ∈ VT.items (.mk 6 [] [key] [t]) from List.mem_singleton.2 rfl)
    have h2 : RightB (.mk 6 [] [key] [t]) = true := by
      have := h.1
      unfold fitsB at this
      rw [Bool.and_eq_true, Bool.and_eq_true] at this
      exact this.1.1
    have h3 := (right_keys h2 rfl).2 key (show key ∈ [key] from List.mem_singleton.2 rfl)
    unfold memberP
    rw [h1, h3, if_pos (by simp)]
    unfold blockL
    rw [if_pos (show VT.kind (.mk 6 [] [key] [t]) = 6 from rfl)]
    simp only [VT.items, VT.keys, ymemL, List.headD_cons, List.append_nil]
  · intro h; cases h
theorem one_item (t : VT) (R : Nat) : (blockP (.mk 5 [] [] [t]) R).2 = 0 → itemP t R = ((blockP (.mk 5 [] [] [t]) R).1, 0) := by
  unfold blockP
  split
  · rename_i h
    rw [Bool.and_eq_true] at h
    intro _
    have h1 : fitsB t (R : Int) = true := fits_item h.1 (show t ∈ VT.items (.mk 5 [] [] [t]) from List.mem_singleton.2 rfl)
    unfold itemP
    rw [h1, if_pos rfl]
    unfold blockL
    rw [if_neg (show ¬ VT.kind (.mk 5 [] [] [t]) = 6 from by show ¬ (5 : Int) = 6; decide)]
    simp only [VT.items, VT.keys, yitemL, List.append_nil]
  · intro h; cases h
set_option maxRecDepth 100000 in
set_option maxHeartbeats 1000000 in
theorem yprintNests_any (s : ByteArray) (t : VT) (kv iv : Value) (ind : Int) (w : World) (h : VD w t.depth t kv iv) (hbk : t.bulk ≤ 1048576) (hV : YVar w) :
    Calls Tryz.prog 6 #[.string s, vv t kv iv, .int .i64 ind] w fun e w' => e = .returned (.bool true) ∧ Below w.heap.size w w' := by
  obtain ⟨key, rfl⟩ : ∃ l, s = bs l := ⟨s.data.toList, (bs_of s).symm⟩
  have sl := bs_size key
  obtain ⟨pk, ck, p, c, rfl, rfl⟩ := h.form
  obtain ⟨X, hX⟩ : ∃ X, w.heap.size = X := ⟨_, rfl⟩
  obtain ⟨W1, hW1⟩ : ∃ W, w.alloc (.cells #[.int .i64 t.kind, .string (bs t.text), .slice pk t.keys.length ck, .slice p t.items.length c] 25) = W := ⟨_, rfl⟩
  have HB1 : Hid (Below w.heap.size w W1) := Lib.hid (by rw [← hW1]; exact below_alloc1 _ _)
  have HXB : Hid (VBox W1 X t (.slice pk t.keys.length ck) (.slice p t.items.length c)) := Lib.hid (by rw [← hW1, ← hX]; exact VBox.new w t _ _)
  have HVD := Lib.hid (h.keep HB1.out)
  have HV := Lib.hid (hV.keep HB1.out)
  have C0 := Lib.hid (small14_any W1 HV.out)
  have CF : Hid (∀ w', Below W1.heap.size W1 w' → Calls Tryz.prog 14 #[vv t (.slice pk t.keys.length ck) (.slice p t.items.length c), .int .i64 200] w' fun e w2 => e = .returned (.bool (FewB t 200)) ∧ Below w'.heap.size w' w2) := Lib.hid (fun w' hb => vFew_any t.depth t _ _ w' 200 (HVD.out.keep hb) (by omega) (by omega) (by omega))
  unfold vv at CF ⊢
  clear h hV
  obtain ⟨y1, hy1⟩ : ∃ y, FewB t 200 = y := ⟨_, rfl⟩
  rw [hy1] at CF
  clear hy1
  by_cases hsm : y1 = true ∧ ¬ 1024 < key.length
  rotate_left
  · go_enter Tryz.func6, Tryz.ntmps6
    go_upto_region 1 with fail
    clear hW1
    go_wp2_with fail
    refine C0.out.mono ?_
    rintro e w2 ⟨rfl, hb2⟩
    have HB2 := Lib.hid hb2
    clear hb2
    obtain ⟨b0, b1, b2, b3⟩ := (HXB.out.keep HB2.out).cells
    go_wp2_with fail
    refine (CF.out _ HB2.out).mono ?_
    rintro e w3 ⟨rfl, hb3⟩
    have HB3 := Lib.hid (below_of_new HB1.out (below_of_new HB2.out hb3))
    clear hb3 b0 b1 b2 b3
    cases y1 with
    | false =>
      clear hsm
      go_wp2_with fail
      go_ret
      exact ⟨rfl, by first | exact HB3.out | (rw [← hX]; exact HB3.out)⟩
    | true =>
      have hlt : 1024 < key.length := Classical.not_not.1 (fun h => hsm ⟨rfl, h⟩)
      have dK : decide ((1024 : Int) < (key.length : Int)) = true := decide_eq_true (by omega)
      clear hsm hlt
      go_wp2_with fail
      go_ret
      exact ⟨rfl, by first | exact HB3.out | (rw [← hX]; exact HB3.out)⟩
  obtain ⟨rfl, hkl⟩ := hsm
  have dK : decide ((1024 : Int) < (key.length : Int)) = false := decide_eq_false (by omega)
  obtain ⟨R, hR⟩ : ∃ R : Nat, (R : Int) = bits .and .i64 ind 127 := ⟨(ind % 128).toNat, by rw [and127_i64]; omega⟩
  have hR1 : R ≤ 127 := by rw [and127_i64] at hR; omega
  have hR2 := hR.symm
  clear hR
  have CM : Hid (∀ w', Below W1.heap.size W1 w' → Calls Tryz.prog 20 #[.string (bs key), vv t (.slice pk t.keys.length ck) (.slice p t.items.length c), .int .i64 (R : Int)] w' fun e w2 => e = QuotedE (memberP key t R) ∧ Below w'.heap.size w' w2) := Lib.hid (fun w' hb => yMember_any key t.depth t _ _ (R : Int) w' (HVD.out.keep hb) (by omega) (by omega) (by omega) (HV.out.keep hb))
  have CI : Hid (∀ (j : Int) w', Below W1.heap.size W1 w' → Calls Tryz.prog 21 #[vv t (.slice pk t.keys.length ck) (.slice p t.items.length c), .int .i64 j] w' fun e w2 => e = QuotedE (itemP t j) ∧ Below w'.heap.size w' w2) := Lib.hid (fun j w' hb => yItem_any t.depth t _ _ j w' (HVD.out.keep hb) (by omega) (HV.out.keep hb))
  have CB6 : Hid (∀ w' K L, Below W1.heap.size W1 w' → w'.heap[K]? = some (.cells #[.string (bs key)] 9) → w'.heap[L]? = some (.cells #[.int .i64 t.kind, .string (bs t.text), .slice pk t.keys.length ck, .slice p t.items.length c] 25) → Calls Tryz.prog 15 #[.agg #[.int .i64 6, .string ⟨#[]⟩, .slice (some ⟨K, 0, none⟩) 1 1, .slice (some ⟨L, 0, none⟩) 1 1], .int .i64 (R : Int)] w' fun e w2 => e = QuotedE (blockP (.mk 6 [] [key] [t]) R) ∧ Below w'.heap.size w' w2) := Lib.hid (fun w' K L hb hk hl => yBlock_any (t.depth + 1) (.mk 6 [] [key] [t]) _ _ (R : Int) w' (VD.one (SV.one hk) hl (HVD.out.keep hb)) (by simp only [VT.bulk, bulks, totS, List.map_cons, List.map_nil, List.sum_cons, List.sum_nil, List.length_cons, List.length_nil]; omega) (HV.out.keep hb))
  have CB5 : Hid (∀ w' L, Below W1.heap.size W1 w' → w'.heap[L]? = some (.cells #[.int .i64 t.kind, .string (bs t.text), .slice pk t.keys.length ck, .slice p t.items.length c] 25) → Calls Tryz.prog 15 #[.agg #[.int .i64 5, .string ⟨#[]⟩, .slice none 0 0, .slice (some ⟨L, 0, none⟩) 1 1], .int .i64 (R : Int)] w' fun e w2 => e = QuotedE (blockP (.mk 5 [] [] [t]) R) ∧ Below w'.heap.size w' w2) := Lib.hid (fun w' L hb hl => yBlock_any (t.depth + 1) (.mk 5 [] [] [t]) _ _ (R : Int) w' (VD.one (SV.nil_ _) hl (HVD.out.keep hb)) (by simp only [VT.bulk, bulks, totS, List.map_nil, List.sum_nil, List.length_nil]; omega) (HV.out.keep hb))
  have h6 := one_member key t R
  have h5 := one_item t R
  have hil : (itemP t 0).1.length ≤ 4294960000 := by
    unfold itemP
    split
    · rename_i hf
      have h1 := ybeh_len t 0 (by
        unfold fitsB at hf
        simp only [Bool.and_eq_true] at hf
        have := right_depth hf.1.1
        omega)
      simp only [Int.toNat_zero, List.replicate_zero, List.nil_append, List.length_append, List.length_singleton]
      omega
    · simp
  unfold vv QuotedE at CM CI
  unfold QuotedE at CB6 CB5
  have HRB : Hid ((RightB t = true → (itemP t R).1.length = (itemP t 0).1.length + R * (itemP t 0).1.count 10 ∧ (itemP t R).2 = 0 ∧ (itemP t 0).2 = 0) ∧ (RightB t = false → itemP t R = ([], 1) ∧ itemP t 0 = ([], 1))) := Lib.hid ⟨fun h => item_more h (by omega), fun h => item_bad h⟩
  have CI1 := Lib.hid (CI.out (R : Int))
  have CI0 := Lib.hid (CI.out 0)
  clear CI
  obtain ⟨⟨A, e1⟩, hA⟩ : ∃ Q, memberP key t R = Q := ⟨_, rfl⟩
  obtain ⟨⟨B, e2⟩, hB⟩ : ∃ Q, blockP (.mk 6 [] [key] [t]) R = Q := ⟨_, rfl⟩
  obtain ⟨⟨C, e3⟩, hC⟩ : ∃ Q, itemP t R = Q := ⟨_, rfl⟩
  obtain ⟨⟨D, e4⟩, hD⟩ : ∃ Q, blockP (.mk 5 [] [] [t]) R = Q := ⟨_, rfl⟩
  obtain ⟨⟨E, e5⟩, hE⟩ : ∃ Q, itemP t 0 = Q := ⟨_, rfl⟩
  rw [hA] at CM h6
  rw [hB] at CB6 h6
  rw [hC] at CI1 h5 HRB
  rw [hD] at CB5 h5
  rw [hE] at CI0 HRB hil
  simp only [] at CM CB6 CI1 CB5 CI0 h6 h5 hil HRB
  clear hA hB hC hD hE
  have H6 : Hid (e2 = 0 → e1 = 0 ∧ A = B) := Lib.hid (fun h => by have := h6 h; simp only [Prod.mk.injEq] at this; exact ⟨this.2, this.1⟩)
  have H5 : Hid (e4 = 0 → e3 = 0 ∧ C = D) := Lib.hid (fun h => by have := h5 h; simp only [Prod.mk.injEq] at this; exact ⟨this.2, this.1⟩)
  clear h6 h5 hbk
  go_enter Tryz.func6, Tryz.ntmps6
  go_upto_region 1 with fail
  clear hW1
  go_wp2_with fail
  refine C0.out.mono ?_
  rintro e w2 ⟨rfl, hb2⟩
  have HB2 := Lib.hid hb2
  clear hb2
  obtain ⟨b0, b1, b2, b3⟩ := (HXB.out.keep HB2.out).cells
  go_wp2_with fail
  refine (CF.out _ HB2.out).mono ?_
  rintro e w3 ⟨rfl, hb3⟩
  have HB3 := Lib.hid (below_of_new HB2.out hb3)
  clear hb3 b0 b1 b2 b3
  obtain ⟨b0, b1, b2, b3⟩ := (HXB.out.keep HB3.out).cells
  go_wp2_with fail
  refine (CM.out _ HB3.out).mono ?_
  rintro e w4 ⟨rfl, hb4⟩
  have HB4 := Lib.hid (below_of_new HB3.out hb4)
  clear hb4 b0 b1 b2 b3
  obtain ⟨K, hK⟩ : ∃ K, w4.heap.size = K := ⟨_, rfl⟩
  have a5 := below_alloc1 w4 (.cells #[.string (bs key)] 9)
  have x5 := heap_alloc_new w4 (.cells #[.string (bs key)] 9)
  obtain ⟨W5, hW5⟩ : ∃ W, w4.alloc (.cells #[.string (bs key)] 9) = W := ⟨_, rfl⟩
  rw [hW5] at a5 x5
  rw [hK] at x5
  obtain ⟨L, hL⟩ : ∃ L, W5.heap.size = L := ⟨_, rfl⟩
  have a6 := below_alloc1 W5 (.cells #[.int .i64 t.kind, .string (bs t.text), .slice pk t.keys.length ck, .slice p t.items.length c] 25)
  have x6 := heap_alloc_new W5 (.cells #[.int .i64 t.kind, .string (bs t.text), .slice pk t.keys.length ck, .slice p t.items.length c] 25)
  obtain ⟨W6, hW6⟩ : ∃ W, W5.alloc (.cells #[.int .i64 t.kind, .string (bs t.text), .slice pk t.keys.length ck, .slice p t.items.length c] 25) = W := ⟨_, rfl⟩
  rw [hW6] at a6 x6
  rw [hL] at x6
  have HB5 := Lib.hid (below_of_new HB4.out a5)
  have HB6 := Lib.hid (below_of_new HB5.out a6)
  have HX5 := Lib.hid ((a6.block _ (cell_it x5)).trans x5)
  have HX6 := Lib.hid x6
  have CMp := Lib.hid (lmap_any (some ⟨K, 0, none⟩) 1 1 (some ⟨L, 0, none⟩) 1 1 W6)
  have hb5 := (HXB.out.keep HB5.out).cells
  obtain ⟨b0, b1, b2, b3⟩ := hb5
  clear a5 x5 a6 x6
  go_wp2_with fail
  refine CMp.out.mono ?_
  rintro e w7 ⟨rfl, hb7⟩
  have HB7 := Lib.hid (below_of_new HB6.out hb7)
  have HX7 := Lib.hid ((hb7.block _ (cell_it HX5.out)).trans HX5.out)
  have HY7 := Lib.hid ((hb7.block _ (cell_it HX6.out)).trans HX6.out)
  have CBk := Lib.hid (CB6.out w7 K L HB7.out HX7.out HY7.out)
  clear hb7 b0 b1 b2 b3 hW5 hW6 hK hL CMp HX5 HX6 CB6
  go_wp2_with fail
  refine CBk.out.mono ?_
  rintro e w8 ⟨rfl, hb8⟩
  have HB8 := Lib.hid (below_of_new HB7.out hb8)
  clear hb8 HX7 HY7 CBk
  obtain ⟨b0, b1, b2, b3⟩ := (HXB.out.keep HB8.out).cells
  go_wp2_with fail
  refine (CI1.out _ HB8.out).mono ?_
  rintro e w9 ⟨rfl, hb9⟩
  have HB9 := Lib.hid (below_of_new HB8.out hb9)
  clear hb9 b0 b1 b2 b3
  obtain ⟨L2, hL2⟩ : ∃ L, w9.heap.size = L := ⟨_, rfl⟩
  have a6 := below_alloc1 w9 (.cells #[.int .i64 t.kind, .string (bs t.text), .slice pk t.keys.length ck, .slice p t.items.length c] 25)
  have x6 := heap_alloc_new w9 (.cells #[.int .i64 t.kind, .string (bs t.text), .slice pk t.keys.length ck, .slice p t.items.length c] 25)
  obtain ⟨W10, hW10⟩ : ∃ W, w9.alloc (.cells #[.int .i64 t.kind, .string (bs t.text), .slice pk t.keys.length ck, .slice p t.items.length c] 25) = W := ⟨_, rfl⟩
  rw [hW10] at a6 x6
  rw [hL2] at x6
  have HB10 := Lib.hid (below_of_new HB9.out a6)
  have HX10 := Lib.hid x6
  have CRw := Lib.hid (lrow_any (some ⟨L2, 0, none⟩) 1 1 W10)
  obtain ⟨b0, b1, b2, b3⟩ := (HXB.out.keep HB9.out).cells
  clear a6 x6
  go_wp2_with fail
  refine CRw.out.mono ?_
  rintro e w11 ⟨rfl, hb11⟩
  have HB11 := Lib.hid (below_of_new HB10.out hb11)
  have HX11 := Lib.hid ((hb11.block _ (cell_it HX10.out)).trans HX10.out)
  have CBk := Lib.hid (CB5.out w11 L2 HB11.out HX11.out)
  clear hb11 b0 b1 b2 b3 hW10 hL2 CRw HX10 CB5
  go_wp2_with fail
  refine CBk.out.mono ?_
  rintro e w12 ⟨rfl, hb12⟩
  have HB12 := Lib.hid (below_of_new HB11.out hb12)
  clear hb12 HX11 CBk
  go_upto_region 10 with fail
  go_cut [89] (fun s89 wx => s89 = .bool false ∧ Hid (Below W1.heap.size W1 wx))
  case first =>
    by_cases h2 : e2 = 0
    · obtain ⟨rfl, rfl⟩ := H6.out h2
      subst h2
      by_cases h4 : e4 = 0
      · obtain ⟨rfl, rfl⟩ := H5.out h4
        subst h4
        go_wp2_with fail
        go_meet
        exact ⟨rfl, HB12⟩
      · have d4 : (e4 == 0) = false := beq_eq_false_iff_ne.2 h4
        clear h4
        go_wp2_with fail
        go_meet
        exact ⟨rfl, HB12⟩
    · have d2 : (e2 == 0) = false := beq_eq_false_iff_ne.2 h2
      clear h2
      by_cases h4 : e4 = 0
      · obtain ⟨rfl, rfl⟩ := H5.out h4
        subst h4
        go_wp2_with fail
        go_meet
        exact ⟨rfl, HB12⟩
      · have d4 : (e4 == 0) = false := beq_eq_false_iff_ne.2 h4
        clear h4
        go_wp2_with fail
        go_meet
        exact ⟨rfl, HB12⟩
  case rest =>
  obtain ⟨rfl, HB13⟩ := hcut
  obtain ⟨b0, b1, b2, b3⟩ := (HXB.out.keep HB13.out).cells
  go_wp2_with fail
  refine (CI0.out _ HB13.out).mono ?_
  rintro e w14 ⟨rfl, hb14⟩
  have HB14 := Lib.hid (below_of_new HB13.out hb14)
  clear hb14 b0 b1 b2 b3
  cases hrb : RightB t with
  | false =>
    obtain ⟨h1, h2⟩ := HRB.out.2 hrb
    simp only [Prod.mk.injEq] at h1 h2
    obtain ⟨rfl, rfl⟩ := h1
    obtain ⟨rfl, rfl⟩ := h2
    have HB15 := Lib.hid (below_of_new HB1.out HB14.out)
    clear hrb HRB hil
    go_wp2_with fail
    go_ret
    exact ⟨rfl, by first | exact HB15.out | (rw [← hX]; exact HB15.out)⟩
  | true =>
    obtain ⟨h1, rfl, rfl⟩ := HRB.out.1 hrb
    obtain ⟨N, hN⟩ : ∃ N, E.count 10 = N := ⟨_, rfl⟩
    rw [hN] at h1
    have hNE : N ≤ E.length := by rw [← hN]; exact List.count_le_length
    have hRN : R * N ≤ 127 * 4294960000 := Nat.mul_le_mul hR1 (by omega)
    have HCL := Lib.hid h1
    have sE := bs_size E
    have sC := bs_size C
    have HN := Lib.hid hN
    clear hrb HRB h1 hN
    go_wp2_with fail
    go_loopw [20, 21] (fun s20 s21 wr => ∃ (i m : Nat), s20 = .int .i64 (m : Int) ∧ s21 = .int .i64 (i : Int) ∧ i ≤ E.length ∧ m ≤ i ∧ Hid (m = (E.take i).count 10) ∧ Hid (Below W1.heap.size W1 wr)) (fun _ s21 _ => E.length - (RowKit.intOf s21).toNat)
    case atStart => exact ⟨0, 0, rfl, rfl, Nat.zero_le _, Nat.zero_le _, Lib.hid (by simp), HB14⟩
    case round =>
      obtain ⟨i, m, rfl, rfl, hi, hmi, HM, HBr⟩ := hrel
      by_cases hlt : i < E.length
      · have hlt' : i < (bs E).size := by omega
        have hiz : (i : Int) < (E.length : Int) := by omega
        have dk : decide ((i : Int) < (E.length : Int)) = true := decide_eq_true hiz
        have hbi := at_bs E i hlt'
        obtain ⟨b, hb⟩ : ∃ b, (bs E)[i]'hlt' = b := ⟨_, rfl⟩
        rw [hb] at hbi
        have htk : E.take (i + 1) = E.take i ++ [b] := by
          obtain ⟨h1, h2⟩ := List.getElem?_eq_some_iff.1 hbi
          rw [List.take_succ_eq_append_getElem h1, h2]
        obtain ⟨x, hx⟩ : ∃ x : Int, (b.toNat : Int) = x := ⟨_, rfl⟩
        have hge3 : (((bs E)[i]'hlt').toNat : Int) = x := by rw [hb, hx]
        by_cases h10 : x = 10
        · have t10 : (x == 10) = true := beq_iff_eq.2 h10
          have hb10 : b = 10 := UInt8.toNat_inj.1 (by show b.toNat = 10; omega)
          have HM2 : Hid (m + 1 = (E.take (i + 1)).count 10) := Lib.hid (by rw [htk, List.count_append, hb10, ← HM.out]; rfl)
          clear htk hbi hb hb10 HM
          subst h10
          go_wp2_with fail
          go_roundw
          case rel => exact ⟨i + 1, m + 1, by go_num, by go_num, by omega, by omega, HM2, by first | exact HBr | exact Lib.hid (below_drewN HBr.out _)⟩
          case measure => simp [RowKit.intOf]; omega
        · have t10 : (x == 10) = false := beq_eq_false_iff_ne.2 h10
          have hb10 : ¬ b = 10 := fun e => h10 (by rw [← hx, e]; rfl)
          have HM2 : Hid (m = (E.take (i + 1)).count 10) := Lib.hid (by rw [htk, List.count_append, ← HM.out, List.count_singleton, if_neg (by simpa using hb10)]; rfl)
          clear htk hbi hb hb10 HM h10
          go_wp2_with fail
          go_roundw
          case rel => exact ⟨i + 1, m, by rfl, by go_num, by omega, by omega, HM2, by first | exact HBr | exact Lib.hid (below_drewN HBr.out _)⟩
          case measure => simp [RowKit.intOf]; omega
      · have dk : decide ((i : Int) < (E.length : Int)) = false := decide_eq_false (by omega)
        obtain rfl : m = N := by
          have h1 := HM.out
          rw [List.take_of_length_le (by omega)] at h1
          exact h1.trans HN.out
        have HB15 := Lib.hid (below_of_new HB1.out HBr.out)
        obtain ⟨Z, hZ⟩ : ∃ Z : Nat, R * m = Z := ⟨_, rfl⟩
        have hZ2 : (R : Int) * (m : Int) = (Z : Int) := by rw [← hZ, Int.natCast_mul]
        have hlen := HCL.out
        rw [hZ] at hlen hRN
        have hw : IntKind.i64.wrap ((R : Int) * (m : Int)) = (Z : Int) := by rw [hZ2, IntKind.wrap_i64]; omega
        have hfin : ((C.length : Int) == (E.length : Int) + (Z : Int)) = true := beq_iff_eq.2 (by omega)
        clear hlen
        go_wp2_with fail
        go_ret
        exact ⟨rfl, by first | exact HB15.out | (rw [← hX]; exact HB15.out)⟩
end Go.Proofs.YtnnlpkbopeiefaaGreatDoor
