import Derived.Test.YtnnlpkbopeiefaaGreatDoorWj
import Derived.Test.YtnnlpkbopeiefaaGreatDoorYpA
/-! yprint.Member; a block is its parts. -/
namespace Go.Proofs.YtnnlpkbopeiefaaGreatDoor
set_option linter.unusedSimpArgs false
set_option linter.unusedVariables false
open Go.RowKit
open Go.Lib hiding intOf
set_option maxRecDepth 100000 in
set_option maxHeartbeats 1000000 in
theorem yMember_any (key : Stp) (n : Nat) (t : VT) (kv iv : Value) (ind : Int) (w : World) (hn : VD w n t kv iv) (hbk : t.bulk ≤ 2000000) (hk : key.length ≤ 2000000) (hkb : 336 * key.length + 2100 * t.bulk ≤ 4250000000) (hV : YVar w) :
    Calls Tryz.prog 20 #[.string (bs key), vv t kv iv, .int .i64 ind] w fun e w' => e = QuotedE (memberP key t ind) ∧ Below w.heap.size w w' := by
  have h := hn.tight
  clear hn
  obtain ⟨pk, ck, p, c, rfl, rfl⟩ := h.form
  obtain ⟨X, hX⟩ : ∃ X, w.heap.size = X := ⟨_, rfl⟩
  obtain ⟨W1, hW1⟩ : ∃ W, w.alloc (.cells #[.int .i64 t.kind, .string (bs t.text), .slice pk t.keys.length ck, .slice p t.items.length c] 25) = W := ⟨_, rfl⟩
  have HB1 : Hid (Below w.heap.size w W1) := Lib.hid (by rw [← hW1]; exact below_alloc1 _ _)
  have HXB : Hid (VBox W1 X t (.slice pk t.keys.length ck) (.slice p t.items.length c)) := Lib.hid (by rw [← hW1, ← hX]; exact VBox.new w t _ _)
  have HVD := Lib.hid (h.keep HB1.out)
  have HV := Lib.hid (hV.keep HB1.out)
  have HC0 := Lib.hid (ywritekey_any key W1 (by omega) HV.out)
  have HC1 : Hid (∀ w', Below W1.heap.size W1 w' → Calls Tryz.prog 53 #[vv t (.slice pk t.keys.length ck) (.slice p t.items.length c), .int .i64 ind] w' fun e w2 => e = .returned (.bool (fitsB t ind)) ∧ Below w'.heap.size w' w2) := Lib.hid (fun w' hb => yfits_any t.depth t _ _ ind w' (HVD.out.keep hb) (by omega) (HV.out.keep hb))
  have hkl := keyY_len key
  unfold vv at HC1 ⊢
  unfold memberP
  unfold QuotedE at HC0
  obtain ⟨Q, hQ⟩ : ∃ Q, keyY key = Q := ⟨_, rfl⟩
  obtain ⟨A, er⟩ := Q
  rw [hQ] at HC0 hkl
  rw [hQ]
  have hAl : A.length ≤ 336 * key.length + 172 := by have : (A, er).1 = A := rfl; rw [this] at hkl; omega
  have HQ := Lib.hid hQ
  clear hQ hkl
  have hszA := bs_size A
  simp only [] at HC0 ⊢
  obtain ⟨y1, hy1⟩ : ∃ y, fitsB t ind = y := ⟨_, rfl⟩
  rw [hy1] at HC1
  rw [hy1]
  have HY1 := Lib.hid hy1
  clear h hV hy1
  cases y1 with
  | false =>
    rw [Bool.false_and, if_neg (by simp)]
    go_enter Tryz.func20, Tryz.ntmps20
    go_upto_region 1 with fail
    clear hW1
    go_wp2_with fail
    refine HC0.out.mono ?_
    rintro e w1 ⟨rfl, hb1⟩
    have HBA := Lib.hid hb1
    clear hb1
    obtain ⟨b0, b1, b2, b3⟩ := (HXB.out.keep HBA.out).cells
    go_wp2_with fail
    refine (HC1.out _ HBA.out).mono ?_
    rintro e w2 ⟨rfl, hb2⟩
    have HB2 := Lib.hid (below_of_new HB1.out (below_of_new HBA.out hb2))
    clear hb2 b0 b1 b2 b3
    go_wp2_with fail
    go_ret2
    exact ⟨rfl, by first | exact HB2.out | (rw [← hX]; exact HB2.out)⟩
  | true =>
    rw [Bool.true_and]
    by_cases her : er = 0
    rotate_left
    · have d0 : (er == 0) = false := beq_eq_false_iff_ne.2 her
      rw [if_neg (by simp [her])]
      go_enter Tryz.func20, Tryz.ntmps20
      go_upto_region 1 with fail
      clear hW1
      go_wp2_with fail
      refine HC0.out.mono ?_
      rintro e w1 ⟨rfl, hb1⟩
      have HBA := Lib.hid hb1
      clear hb1
      obtain ⟨b0, b1, b2, b3⟩ := (HXB.out.keep HBA.out).cells
      go_wp2_with fail
      refine (HC1.out _ HBA.out).mono ?_
      rintro e w2 ⟨rfl, hb2⟩
      have HB2 := Lib.hid (below_of_new HB1.out (below_of_new HBA.out hb2))
      clear hb2 b0 b1 b2 b3
      go_wp2_with fail
      go_ret2
      exact ⟨rfl, by first | exact HB2.out | (rw [← hX]; exact HB2.out)⟩
    subst her
    rw [if_pos (by simp)]
    have hf := HY1.out
    unfold fitsB at hf
    simp only [Bool.and_eq_true, decide_eq_true_eq] at hf
    obtain ⟨⟨hrt, hi0⟩, hi1⟩ := hf
    have hdp := right_depth hrt
    have HEV := Lib.hid (right_every hrt)
    obtain ⟨i, rfl⟩ : ∃ i : Nat, ind = i := ⟨ind.toNat, by omega⟩
    rw [Int.toNat_natCast]
    have hAl2 : (List.replicate i (32 : UInt8) ++ (A ++ [58])).length ≤ 336 * key.length + 430 := by simp only [List.length_append, List.length_replicate, List.length_singleton]; omega
    obtain ⟨C, hC⟩ : ∃ C, List.replicate i 32 ++ (A ++ [58]) ++ ybehL t i = C := ⟨_, rfl⟩
    have HNE : Hid (C ≠ []) := Lib.hid (by rw [← hC]; simp)
    rw [hC]
    have HCe := Lib.hid hC
    clear hC hrt
    go_enter Tryz.func20, Tryz.ntmps20
    go_upto_region 1 with fail
    clear hW1
    go_wp2_with fail
    refine HC0.out.mono ?_
    rintro e w1 ⟨rfl, hb1⟩
    have HBA := Lib.hid hb1
    clear hb1
    obtain ⟨b0, b1, b2, b3⟩ := (HXB.out.keep HBA.out).cells
    go_wp2_with fail
    refine (HC1.out _ HBA.out).mono ?_
    rintro e w3 ⟨rfl, hb2⟩
    have HBW := Lib.hid (below_of_new HBA.out hb2)
    clear hb2 b0 b1 b2 b3
    have hP := EbN.new w3 65 []
    have hb3 := below_alloc1 w3 (.cells #[.pointer none, .slice none 0 0] 65)
    obtain ⟨b, hb⟩ : ∃ b, w3.heap.size = b := ⟨_, rfl⟩
    obtain ⟨W3, hW3⟩ : ∃ W, w3.alloc (.cells #[.pointer none, .slice none 0 0] 65) = W := ⟨_, rfl⟩
    have hP : YN w3.heap.size w3.heap.size [] W3 := by rw [← hW3]; exact hP
    rw [hW3] at hb3
    rw [show YN w3.heap.size w3.heap.size [] W3 = YN w3.heap.size b [] W3 from by rw [hb]] at hP
    have hXB3 := (HXB.out.keep HBW.out).keep hb3
    have hBb := EbN.le hP
    have hXb : X ≠ b := Nat.ne_of_lt (Nat.lt_of_lt_of_le (cell_it (show _ = _ from (HXB.out.keep HBW.out))) hBb)
    have HB4 := Lib.hid hb3
    have HVW := Lib.hid (HVD.out.keep HBW.out)
    have HYW := Lib.hid (HV.out.keep HBW.out)
    have HH : Hid (Calls Tryz.prog 56 #[.pointer (some ⟨b, 0, none⟩), .int .i64 (i : Int), .string (bs A ++ ⟨#[58]⟩)] W3 fun e w2 => e = .returned (.tuple #[]) ∧ YN w3.heap.size b ([] ++ (List.replicate i 32 ++ (A ++ [58]))) w2 ∧ Kp w3.heap.size b W3 w2) := Lib.hid (by rw [cat_colon]; exact yhead_any w3 b [] (A ++ [58]) i W3 hP hb3 (by simp only [List.length_nil]; omega) (by omega) (by simp only [List.length_append, List.length_singleton]; omega))
    rw [List.nil_append] at HH
    have HXB3 := Lib.hid hXB3
    clear hP hb3 hXB3
    go_wp2_with fail
    refine HH.out.mono ?_
    rintro e w4 ⟨rfl, h2, h3⟩
    have HP4 := Lib.hid h2
    have HK4 := Lib.hid h3
    have HB5 := Lib.hid (HB4.out.trans h3.1)
    clear h2 h3 hW3
    obtain ⟨b0, b1, b2, b3⟩ := (HXB3.out.kp HK4.out hXb).cells
    have HC4 := Lib.hid (ybehind_any w3 HYW.out t.depth b t _ _ w4 (List.replicate i 32 ++ (A ++ [58])) i HVW.out HEV.out HP4.out HB5.out (by omega) (by omega))
    unfold vv at HC4
    rw [HCe.out] at HC4
    go_wp2_with fail
    refine HC4.out.mono ?_
    rintro e w5 ⟨rfl, h2, h3⟩
    have HC5 := Lib.hid (ebString_any _ b C w5 h2 HNE.out)
    have HB6 := Lib.hid (HB5.out.trans h3.1)
    clear h2 h3 b0 b1 b2 b3
    go_wp2_with fail
    refine HC5.out.mono ?_
    rintro e w6 ⟨rfl, hb5⟩
    have HB7 := Lib.hid (below_of_new HB1.out (below_of_new HBW.out (HB6.out.trans hb5)))
    clear hb5
    go_wp2_with fail
    go_ret2
    exact ⟨rfl, by first | exact HB7.out | (rw [← hX]; exact HB7.out)⟩
/-! Plain: a block is its parts. -/
theorem clean_okT : ∀ (n f : Nat) (s : Stp), s.length ≤ n → s.length ≤ f → Lib.validD s = true → cleanGo f s = true → ∀ g, s.length ≤ g → wrGo false g s 0 = s.length
  | 0, f, s, hn, _, _, _ => by
    intro g _
    cases s with
    | nil => cases g <;> rfl
    | cons c r => simp at hn
  | n + 1, f, s, hn, hf, hv, hc => by
    intro g hg
    by_cases hne : s = []
    · subst hne; cases g <;> rfl
    obtain ⟨r, t, hr, rfl, ht, hd⟩ := valid_cut s hne hv
    obtain ⟨E, hE⟩ : ∃ E, encodeRune r = E := ⟨_, rfl⟩
    have hEne := encode_ne r
    have hpl := fun h32 => (plain_rune r hr h32 t).2
    rw [hE] at hEne
    cases E with
    | nil => exact absurd rfl hEne
    | cons e E' =>
      rw [hE] at hd hn hf hc hg hpl ⊢
      obtain ⟨f', rfl⟩ : ∃ g, f = g + 1 := ⟨f - 1, by simp at hf; omega⟩
      obtain ⟨g', rfl⟩ : ∃ g0, g = g0 + 1 := ⟨g - 1, by simp at hg; omega⟩
      rw [List.cons_append, cleanGo] at hc
      rw [List.cons_append] at hd hpl
      rw [hd] at hc
      split at hc
      · cases hc
      rename_i hb
      simp only [Bool.or_eq_true, decide_eq_true_eq, beq_iff_eq, not_or] at hb
      have e1 : (e :: (E' ++ t)).drop (e :: E').length = t := by rw [show e :: (E' ++ t) = (e :: E') ++ t from rfl, List.drop_left]
      rw [e1] at hc
      have ih := clean_okT n f' t (by simp at hn; omega) (by simp at hf; omega) ht hc g' (by simp at hg; omega)
      have hr0 := hr.1
      have hp := hpl (by omega)
      rw [List.cons_append, wrGo_cons, hp, hd, Bool.false_and, Bool.or_false, if_neg (by simp), e1]
      have ho := wrGo_off false g' t 0 (e :: E').length
      rw [Nat.zero_add] at ho
      rw [Nat.zero_add, ho, ih]
      simp only [List.length_cons, List.length_append]
      omega
theorem clean_sqw {s : Stp} (h : cleanB s = true) : (sqw s).2 = 0 := by
  unfold cleanB at h
  rw [Bool.and_eq_true] at h
  have h1 : okT s := clean_okT s.length s.length s (Nat.le_refl _) (Nat.le_refl _) h.2 h.1 s.length (Nat.le_refl _)
  have h2 := (wrL_ok s).1 h1
  unfold sqw
  rw [if_neg h2]
theorem key_ok {s : Stp} (h : Lib.validD s = true) : (keyY s).2 = 0 := by
  unfold keyY
  rw [if_pos h]
  split
  · rfl
  · unfold quotedY
    split
    · rename_i hc
      exact clean_sqw hc
    · unfold quoteL
      rw [if_pos h]
theorem keys_valid : ∀ (ks had : List Stp), keysGo had ks = true → ∀ k ∈ ks, Lib.validD k = true
  | [], had, _ => by simp
  | k :: ks, had, h => by
    unfold keysGo at h
    simp only [Bool.and_eq_true] at h
    intro x hx
    rcases List.mem_cons.1 hx with rfl | hx
    · first | exact h.1.1 | exact h.1.2 | exact h.1
    · exact keys_valid ks _ h.2 x hx
theorem everyL_mem {p : VT → Bool} {l : List VT} (h : everyL p l = true) : ∀ x ∈ l, everyB p x = true := by
  rw [everyL_eq, List.all_eq_true] at h
  exact h
theorem right_item {t x : VT} (h : RightB t = true) (hx : x ∈ t.items) : RightB x = true := by
  unfold RightB at h ⊢
  simp only [Bool.and_eq_true, decide_eq_true_eq] at h ⊢
  obtain ⟨⟨h1, h2⟩, h3⟩ := h
  have e1 : t.size = sizes t.items + 1 := by cases t; rw [VT.size]; rfl
  have e2 : t.depth = depths t.items + 1 := by cases t; rw [VT.depth]; rfl
  have := size_mem hx
  have := depth_mem hx
  exact ⟨⟨by omega, by omega⟩, everyL_mem (every_node h3).2 x hx⟩
theorem fits_item {t x : VT} {ind : Int} (h : fitsB t ind = true) (hx : x ∈ t.items) : fitsB x ind = true := by
  unfold fitsB at h ⊢
  simp only [Bool.and_eq_true] at h ⊢
  exact ⟨⟨right_item h.1.1 hx, h.1.2⟩, h.2⟩
theorem right_keys {t : VT} (h : RightB t = true) (h6 : t.kind = 6) : t.keys.length = t.items.length ∧ ∀ k ∈ t.keys, (keyY k).2 = 0 := by
  have hn := (every_node (right_every h)).1
  unfold rnodeB nodeB nodeF at hn
  simp only [Bool.and_eq_true, decide_eq_true_eq] at hn
  have hn := hn.2
  rw [if_neg (by omega), if_pos h6] at hn
  unfold keyedB at hn
  simp only [Bool.and_eq_true, decide_eq_true_eq] at hn
  exact ⟨hn.1.2, fun k hk => key_ok (keys_valid _ _ hn.1.1 k hk)⟩
theorem yitem_take (l : List VT) (i : Nat) (x : VT) (ind : Nat) (hx : l[i]? = some x) : yitemL (l.take (i + 1)) ind = yitemL (l.take i) ind ++ (List.replicate ind 32 ++ [45] ++ ybehL x ind) := by
  have e : l.take (i + 1) = l.take i ++ [x] := by
    obtain ⟨h1, h2⟩ := List.getElem?_eq_some_iff.1 hx
    rw [List.take_succ_eq_append_getElem h1, h2]
  rw [e, yitemL_app]
theorem ymem_take (l : List VT) (ks : List Stp) (i : Nat) (x : VT) (k : Stp) (ind : Nat) (hx : l[i]? = some x) (hk : ks[i]? = some k) : ymemL (l.take (i + 1)) ks ind = ymemL (l.take i) ks ind ++ (List.replicate ind 32 ++ ((keyY k).1 ++ [58]) ++ ybehL x ind) := by
  obtain ⟨h1, h2⟩ := List.getElem?_eq_some_iff.1 hx
  have e : l.take (i + 1) = l.take i ++ [x] := by rw [List.take_succ_eq_append_getElem h1, h2]
  rw [e, ymemL_app _ _ _ ks k (by rw [List.length_take, Nat.min_eq_left (Nat.le_of_lt h1)]; exact hk)]
end Go.Proofs.YtnnlpkbopeiefaaGreatDoor
