import Derived.Test.YtnnlpkbopeiefaaGreatDoorWd
/-! print: the walk of value. Printed by mkwd.py. -/
namespace Go.Proofs.YtnnlpkbopeiefaaGreatDoor
set_option linter.unusedSimpArgs false
set_option linter.unusedVariables false
open Go.RowKit
open Go.Lib hiding intOf
theorem rnode_of {t : VT} (h : everyB rnodeB t = true) : rnodeB t = true ∧ everyL rnodeB t.items = true := by
  cases t
  rw [everyB, Bool.and_eq_true] at h
  exact h
theorem rnode_keys {t : VT} (h : rnodeB t = true) (h6 : t.kind = 6) : t.keys.length = t.items.length := by
  unfold rnodeB at h
  rw [Bool.and_eq_true] at h
  have h2 := h.2
  unfold nodeB nodeF at h2
  rw [if_neg (by omega), if_pos h6, Bool.and_eq_true] at h2
  unfold keyedB at h2
  simp only [Bool.and_eq_true, decide_eq_true_eq] at h2
  exact h2.1.2
theorem compactL_eq (t : VT) : compactL t = (if t.kind = 1 then nullL else if t.kind = 4 then (quoteL t.text).1 else if t.kind = 5 then 91 :: (itemsL true t.items ++ [93]) else if t.kind = 6 then 123 :: (membersL true t.items t.keys ++ [125]) else t.text) := by cases t; rw [compactL]; rfl
set_option maxRecDepth 100000 in
set_option maxHeartbeats 1000000 in
theorem pvalue_step (w0 : World) (hV : YVar w0) (n : Nat) (IH : PVc w0 n) : PVc w0 (n + 1) := by
  intro b t kv iv w l lev hvd hev h hb0 hl hlev
  have hmf : ∀ (fn : Fn) (first cap : Array Value) (w : World), (Instr.makeFunc fn first cap).run Tryz.prog w = .ok (.func fn first cap) w := fun _ _ _ _ => rfl
  obtain ⟨m', hm, hks, p, c, rfl, hlc, hit⟩ := hvd.parts
  obtain rfl : n = m' := by omega
  have HKS := Lib.hid hks
  obtain ⟨pk, ck, rfl, hck, hlies⟩ := hks
  have hBw : w0.heap.size ≤ w.heap.size := hb0.size
  obtain ⟨X, hX⟩ : ∃ X, w.heap.size = X := ⟨_, rfl⟩
  obtain ⟨W1, hW1⟩ : ∃ W, w.alloc (.cells #[.int .i64 t.kind, .string (bs t.text), .slice pk t.keys.length ck, .slice p t.items.length c] 25) = W := ⟨_, rfl⟩
  have HB1 : Hid (Below w.heap.size w W1) := Lib.hid (by rw [← hW1]; exact below_alloc1 _ _)
  have HXB : Hid (VBox W1 X t (.slice pk t.keys.length ck) (.slice p t.items.length c)) := Lib.hid (by rw [← hW1, ← hX]; exact VBox.new w t _ _)
  have HB01 := Lib.hid (hb0.trans (HB1.out.mono hBw))
  have H1 := Lib.hid (h.keep HB1.out)
  obtain ⟨hrn, hel⟩ := rnode_of hev
  have HRN := Lib.hid hrn
  have HKW : Hid (Kp w0.heap.size b w W1) := Lib.hid (Kp.of_below HB1.out hBw)
  have hbs : t.text.length + bulks t.items + totS t.keys + t.keys.length < t.bulk := by cases t; rw [VT.bulk]; simp only [VT.items, VT.keys, VT.text]; omega
  have HIT := Lib.hid hit
  have HEL := Lib.hid hel
  have HIHf := Lib.hid IH
  rw [compactL_eq]
  unfold vv
  have HQ : Hid (∀ s : Stp, s.length ≤ t.bulk → Calls Tryz.prog 106 #[.pointer (some ⟨b, 0, none⟩), .string (bs s)] W1 fun e w' => e = .returned (.tuple #[.int .i64 (s.length : Int), .nilIface]) ∧ EbW 114 pX w0.heap.size b (l ++ s) W1 w') := Lib.hid (fun s hs => ebStr_any pT w0.heap.size b l s W1 H1.out (by omega) (by omega) HB01.out.size)
  clear hit hvd hev h hlies hrn hel hb0 hm
  by_cases k1 : t.kind = 1
  · rw [if_pos k1]
    have d1 : (t.kind == 1) = true := by rw [k1]; rfl
    have HC : Hid (Calls Tryz.prog 106 #[.pointer (some ⟨b, 0, none⟩), .string ⟨#[110, 117, 108, 108]⟩] W1 fun e w' => e = .returned (.tuple #[.int .i64 4, .nilIface]) ∧ EbW 114 pX w0.heap.size b (l ++ nullL) W1 w') := Lib.hid (ebStr_any pT w0.heap.size b l nullL W1 H1.out (by omega) (by decide) HB01.out.size)
    clear k1
    go_enter Tryz.func112, Tryz.ntmps112
    go_upto_region 1 with fail
    clear hW1
    obtain ⟨b0, b1, b2, b3⟩ := HXB.out.cells
    go_wp2_with fail
    refine HC.out.mono ?_
    rintro e w2 ⟨rfl, h2, h3, h4⟩
    have H2 := Lib.hid h2
    have HK2 : Hid (Kp w0.heap.size b w w2) := Lib.hid (HKW.out.trans ⟨h3, h4⟩)
    clear h2 h3 h4 b0 b1 b2 b3
    go_wp2_with fail
    go_end0
    exact ⟨rfl, H2.out, HK2.out⟩
  have d1 : (t.kind == 1) = false := beq_eq_false_iff_ne.2 k1
  rw [if_neg k1]
  by_cases k4 : t.kind = 4
  · rw [if_pos k4]
    have d4 : (t.kind == 4) = true := by rw [k4]; rfl
    have HC := Lib.hid (pquoted_any w0 hV b l t.text W1 H1.out HB01.out (by omega) (by omega))
    clear k1 k4
    go_enter Tryz.func112, Tryz.ntmps112
    go_upto_region 1 with fail
    clear hW1
    obtain ⟨b0, b1, b2, b3⟩ := HXB.out.cells
    go_wp2_with fail
    refine HC.out.mono ?_
    rintro e w2 ⟨rfl, h2, h3⟩
    have H2 := Lib.hid h2
    have HK2 : Hid (Kp w0.heap.size b w w2) := Lib.hid (HKW.out.trans h3)
    clear h2 h3 b0 b1 b2 b3
    go_wp2_with fail
    go_end0
    exact ⟨rfl, H2.out, HK2.out⟩
  have d4 : (t.kind == 4) = false := beq_eq_false_iff_ne.2 k4
  rw [if_neg k4]
  by_cases k5 : t.kind = 5
  · rw [if_pos k5]
    have d5 : (t.kind == 5) = true := by rw [k5]; rfl
    have HC := Lib.hid (pitems_any w0 hV n HIHf.out b t (.slice pk t.keys.length ck) p c W1 l lev (by omega) HKS.out HIT.out HEL.out H1.out HB01.out hl (by omega))
    unfold vv at HC
    clear k1 k4 k5
    go_enter Tryz.func112, Tryz.ntmps112
    go_upto_region 1 with fail
    clear hW1
    obtain ⟨b0, b1, b2, b3⟩ := HXB.out.cells
    go_wp2_with fail
    refine HC.out.mono ?_
    rintro e w2 ⟨rfl, h2, h3⟩
    have H2 := Lib.hid h2
    have HK2 : Hid (Kp w0.heap.size b w w2) := Lib.hid (HKW.out.trans h3)
    clear h2 h3 b0 b1 b2 b3
    go_wp2_with fail
    go_end0
    exact ⟨rfl, H2.out, HK2.out⟩
  have d5 : (t.kind == 5) = false := beq_eq_false_iff_ne.2 k5
  rw [if_neg k5]
  by_cases k6 : t.kind = 6
  · rw [if_pos k6]
    have d6 : (t.kind == 6) = true := by rw [k6]; rfl
    have HC := Lib.hid (pmembers_any w0 hV n HIHf.out b t (.slice pk t.keys.length ck) p c W1 l lev (by omega) HKS.out (rnode_keys HRN.out k6) HIT.out HEL.out H1.out HB01.out hl (by omega))
    unfold vv at HC
    clear k1 k4 k5 k6
    go_enter Tryz.func112, Tryz.ntmps112
    go_upto_region 1 with fail
    clear hW1
    obtain ⟨b0, b1, b2, b3⟩ := HXB.out.cells
    go_wp2_with fail
    refine HC.out.mono ?_
    rintro e w2 ⟨rfl, h2, h3⟩
    have H2 := Lib.hid h2
    have HK2 : Hid (Kp w0.heap.size b w w2) := Lib.hid (HKW.out.trans h3)
    clear h2 h3 b0 b1 b2 b3
    go_wp2_with fail
    go_end0
    exact ⟨rfl, H2.out, HK2.out⟩
  have d6 : (t.kind == 6) = false := beq_eq_false_iff_ne.2 k6
  rw [if_neg k6]
  have HC := Lib.hid (fun (w' : World) (hb : Below W1.heap.size W1 w') => ebStr_any pT w0.heap.size b l t.text w' (H1.out.keep hb) (by omega) (by omega) (Nat.le_trans HB01.out.size hb.size))
  clear k1 k4 k5 k6
  go_enter Tryz.func112, Tryz.ntmps112
  go_upto_region 1 with fail
  clear hW1
  obtain ⟨b0, b1, b2, b3⟩ := HXB.out.cells
  go_upto_region 2 with fail
  go_region_law ((go_simp; go_at_call 106; (refine (HC.out _ (Below.refl _ _).drew).mono ?_); rintro e w2 ⟨rfl, h2, h3, h4⟩))
  all_goals
    have H2 := Lib.hid h2
    have HK2 : Hid (Kp w0.heap.size b w w2) := Lib.hid (HKW.out.trans (Kp.trans (Kp.of_below (Below.refl _ _).drew HB01.out.size) ⟨h3, h4⟩))
    clear h2 h3 h4 b0 b1 b2 b3
    go_wp2_with fail
    go_end0
    exact ⟨rfl, H2.out, HK2.out⟩
theorem pvalue_any (w0 : World) (hV : YVar w0) : ∀ n, PVc w0 n
  | 0 => fun b t kv iv w l lev h => h.elim
  | n + 1 => pvalue_step w0 hV n (pvalue_any w0 hV n)
end Go.Proofs.YtnnlpkbopeiefaaGreatDoor
/-! print.Compact; yscalar.Write, WriteKey: plain, and their walks. -/
namespace Go.Proofs.YtnnlpkbopeiefaaGreatDoor
set_option linter.unusedSimpArgs false
set_option linter.unusedVariables false
open Go.RowKit
open Go.Lib hiding intOf
theorem VD.tight {w : World} : ∀ {n : Nat} {t : VT} {kv iv : Value}, VD w n t kv iv → VD w t.depth t kv iv
  | 0, _, _, _, h => h.elim
  | n + 1, t, kv, iv, h => by
    obtain ⟨h1, p, c, h2, h3, h4⟩ := h
    obtain ⟨k, s, ks, l⟩ := t
    rw [VT.depth]
    refine ⟨h1, p, c, h2, h3, ?_⟩
    rcases h4 with h4 | ⟨g, o, h4, h5, h6⟩
    · exact .inl h4
    · refine .inr ⟨g, o, h4, h5, fun j x hx => ?_⟩
      obtain ⟨kv', iv', e0, e1, e2, e3, e4⟩ := h6 j x hx
      have hd := depth_mem (List.mem_of_getElem? (show l[j]? = some x from hx))
      have := e4.tight.more (depths l - x.depth)
      rw [show x.depth + (depths l - x.depth) = depths l by omega] at this
      exact ⟨kv', iv', e0, e1, e2, e3, this⟩
theorem VD.small {w : World} {n : Nat} {t : VT} {kv iv : Value} (h : VD w n t kv iv) : ∃ m, m ≤ t.bulk ∧ VD w m t kv iv :=
  ⟨t.depth, Nat.le_trans (depth_le_size t) (size_le_bulk t), h.tight⟩
theorem dec_ne {s : Stp} (h : decB s = true) : s ≠ [] := by
  unfold decB at h
  simp only [Bool.and_eq_true, decide_eq_true_eq] at h
  have h' : parseL s = ((parseL s).1, 0) := by rw [← h.1]
  have := textL_ne (parseL_right h')
  rw [h.2] at this
  exact this
theorem compact_ne {t : VT} (h : rnodeB t = true) : compactL t ≠ [] := by
  rw [compactL_eq]
  unfold rnodeB at h
  simp only [Bool.and_eq_true, decide_eq_true_eq] at h
  obtain ⟨h7, h⟩ := h
  unfold nodeB nodeF at h
  by_cases h1 : t.kind = 1
  · rw [if_pos h1]; decide
  by_cases h4 : t.kind = 4
  · rw [if_neg h1, if_pos h4]
    rw [if_neg (by omega), if_neg (by omega)] at h
    split at h
    · cases h
    · rw [if_neg (by omega), if_neg (by omega)] at h
      unfold quoteL
      rw [if_pos h]
      simp
  by_cases h5 : t.kind = 5
  · rw [if_neg h1, if_neg h4, if_pos h5]; simp
  by_cases h6 : t.kind = 6
  · rw [if_neg h1, if_neg h4, if_neg h5, if_pos h6]; simp
  rw [if_neg h1, if_neg h4, if_neg h5, if_neg h6]
  rw [if_neg h5, if_neg h6] at h
  split at h
  · cases h
  · split at h
    · rw [Bool.or_eq_true, decide_eq_true_eq, decide_eq_true_eq] at h
      rcases h with h | h <;> rw [h] <;> decide
    · split at h
      · exact dec_ne h
      · first | cases h | (rw [if_neg h4] at h; cases h)
def compP (t : VT) : Stp × Int := if RightB t then (compactL t, 0) else ([], 1)
theorem right_every {t : VT} (h : RightB t = true) : everyB rnodeB t = true := by
  unfold RightB at h
  rw [Bool.and_eq_true] at h
  exact h.2
set_option maxRecDepth 100000 in
set_option maxHeartbeats 1000000 in
theorem compact_any (n : Nat) (t : VT) (kv iv : Value) (w : World) (hn : VD w n t kv iv) (hbk : t.bulk ≤ 33554432) (hV : YVar w) :
    Calls Tryz.prog 64 #[vv t kv iv] w fun e w' => e = QuotedE (compP t) ∧ Below w.heap.size w w' := by
  obtain ⟨m, hm, h⟩ := hn.small
  clear hn
  obtain ⟨pk, ck, p, c, rfl, rfl⟩ := h.form
  obtain ⟨X, hX⟩ : ∃ X, w.heap.size = X := ⟨_, rfl⟩
  obtain ⟨W1, hW1⟩ : ∃ W, w.alloc (.cells #[.int .i64 t.kind, .string (bs t.text), .slice pk t.keys.length ck, .slice p t.items.length c] 25) = W := ⟨_, rfl⟩
  have HB1 : Hid (Below w.heap.size w W1) := Lib.hid (by rw [← hW1]; exact below_alloc1 _ _)
  have HXB : Hid (VBox W1 X t (.slice pk t.keys.length ck) (.slice p t.items.length c)) := Lib.hid (by rw [← hW1, ← hX]; exact VBox.new w t _ _)
  have HVD := Lib.hid (h.keep HB1.out)
  have HV := Lib.hid (hV.keep HB1.out)
  have HC1 := Lib.hid (vright_any m t _ _ W1 HVD.out (by omega) HV.out.1)
  unfold vv at HC1 ⊢
  unfold compP
  obtain ⟨y, hy⟩ : ∃ y, RightB t = y := ⟨_, rfl⟩
  rw [hy] at HC1
  rw [hy]
  have HY := Lib.hid hy
  clear h hV hy
  cases y with
  | false =>
    rw [if_neg (by simp)]
    go_enter Tryz.func64, Tryz.ntmps64
    go_upto_region 1 with fail
    clear hW1
    obtain ⟨b0, b1, b2, b3⟩ := HXB.out.cells
    go_wp2_with fail
    refine HC1.out.mono ?_
    rintro e w2 ⟨rfl, hb2⟩
    have HB2 := Lib.hid (below_of_new HB1.out hb2)
    clear hb2 b0 b1 b2 b3
    go_wp2_with fail
    go_ret2
    exact ⟨rfl, by first | exact HB2.out | (rw [← hX]; exact HB2.out)⟩
  | true =>
    rw [if_pos rfl]
    have HNE := Lib.hid (compact_ne (rnode_of (right_every HY.out)).1)
    obtain ⟨C, hC⟩ : ∃ C, compactL t = C := ⟨_, rfl⟩
    rw [hC] at HNE
    rw [hC]
    have HCe := Lib.hid hC
    clear hC
    go_enter Tryz.func64, Tryz.ntmps64
    go_upto_region 1 with fail
    clear hW1
    obtain ⟨b0, b1, b2, b3⟩ := HXB.out.cells
    go_wp2_with fail
    refine HC1.out.mono ?_
    rintro e w2 ⟨rfl, hb2⟩
    have HB2 := Lib.hid hb2
    have HXB2 := HXB.out.keep hb2
    have HVD2 := Lib.hid (HVD.out.keep hb2)
    have HV2 := Lib.hid (HV.out.keep hb2)
    clear hb2 b0 b1 b2 b3
    have hP := EbN.new w2 114 pX
    have hb3 := below_alloc1 w2 (.cells #[.pointer none, .slice none 0 0, .bool false, .int .i64 0] 114)
    obtain ⟨b, hb⟩ : ∃ b, w2.heap.size = b := ⟨_, rfl⟩
    obtain ⟨W3, hW3⟩ : ∃ W, w2.alloc (.cells #[.pointer none, .slice none 0 0, .bool false, .int .i64 0] 114) = W := ⟨_, rfl⟩
    have hP : PN w2.heap.size w2.heap.size [] W3 := by rw [← hW3]; exact hP
    rw [hW3] at hb3
    rw [show PN w2.heap.size w2.heap.size [] W3 = PN w2.heap.size b [] W3 from by rw [hb]] at hP
    have hXB3 := HXB2.keep hb3
    have HP := Lib.hid hP
    have HB3 := Lib.hid hb3
    have HC2 := Lib.hid (pvalue_any w2 HV2.out m b t _ _ W3 [] 0 HVD2.out (right_every HY.out) hP hb3 (by simp only [List.length_nil]; omega) (by omega))
    unfold vv at HC2
    rw [List.nil_append] at HC2
    rw [HCe.out] at HC2
    obtain ⟨b0, b1, b2, b3⟩ := hXB3.cells
    clear hP hb3 hXB3 HXB2
    go_wp2_with fail
    refine HC2.out.mono ?_
    rintro e w4 ⟨rfl, h2, h3⟩
    have HC3 := Lib.hid (ebString_any _ b C w4 h2 HNE.out)
    have HB4 := Lib.hid (HB3.out.trans h3.1)
    clear h2 h3 b0 b1 b2 b3 hW3
    go_wp2_with fail
    refine HC3.out.mono ?_
    rintro e w5 ⟨rfl, hb5⟩
    have HB5 := Lib.hid (below_of_new HB1.out (below_of_new HB2.out (HB4.out.trans hb5)))
    clear hb5
    go_wp2_with fail
    go_ret2
    exact ⟨rfl, by first | exact HB5.out | (rw [← hX]; exact HB5.out)⟩
def writeY (t : VT) : Stp × Int :=
  if RightB t then
    if t.kind = 4 then (if bareB t.text && decide ((resP t.text).1 = 4) then (t.text, 0) else quotedY t.text)
    else (safeL (compactL t), 0)
  else ([], 1)
def keyY (s : Stp) : Stp × Int := if Lib.validD s then (if bareB s then (s, 0) else quotedY s) else ([], 2)
set_option maxRecDepth 100000 in
set_option maxHeartbeats 1000000 in
theorem ywrite_any (n : Nat) (t : VT) (kv iv : Value) (w : World) (h : VD w n t kv iv) (hbk : t.bulk ≤ 16777216) (hV : YVar w) :
    Calls Tryz.prog 31 #[vv t kv iv] w fun e w' => e = QuotedE (writeY t) ∧ Below w.heap.size w w' := by
  obtain ⟨pk, ck, p, c, rfl, rfl⟩ := h.form
  obtain ⟨X, hX⟩ : ∃ X, w.heap.size = X := ⟨_, rfl⟩
  obtain ⟨W1, hW1⟩ : ∃ W, w.alloc (.cells #[.int .i64 t.kind, .string (bs t.text), .slice pk t.keys.length ck, .slice p t.items.length c] 25) = W := ⟨_, rfl⟩
  have HB1 : Hid (Below w.heap.size w W1) := Lib.hid (by rw [← hW1]; exact below_alloc1 _ _)
  have HXB : Hid (VBox W1 X t (.slice pk t.keys.length ck) (.slice p t.items.length c)) := Lib.hid (by rw [← hW1, ← hX]; exact VBox.new w t _ _)
  have HVD := Lib.hid (h.keep HB1.out)
  have HV := Lib.hid (hV.keep HB1.out)
  have HC1 := Lib.hid (vright_any n t _ _ W1 HVD.out (by omega) HV.out.1)
  have hbt : t.text.length < t.bulk := by cases t; rw [VT.bulk]; simp only [VT.text]; omega
  have hcl := compact_len t
  have CP : Hid (∀ w', Below W1.heap.size W1 w' → Calls Tryz.prog 64 #[vv t (.slice pk t.keys.length ck) (.slice p t.items.length c)] w' fun e w2 => e = QuotedE (compP t) ∧ Below w'.heap.size w' w2) := Lib.hid (fun w' hb => compact_any n t _ _ w' (HVD.out.keep hb) (by omega) (HV.out.keep hb))
  have CB : Hid (∀ w', Below W1.heap.size W1 w' → Calls Tryz.prog 40 #[.string (bs t.text)] w' fun e w2 => e = .returned (.bool (bareB t.text)) ∧ Below w'.heap.size w' w2) := Lib.hid (fun w' hb => ybare_any t.text w' (by omega) (HV.out.keep hb))
  have CR : Hid (∀ w', Below W1.heap.size W1 w' → Calls Tryz.prog 42 #[.string (bs t.text)] w' fun e w2 => e = ResE t.text ∧ Below w'.heap.size w' w2) := Lib.hid (fun w' hb => yresolve_any t.text w' (by omega) (HV.out.keep hb))
  have CQ : Hid (∀ w', Below W1.heap.size W1 w' → Calls Tryz.prog 65 #[.string (bs t.text)] w' fun e w2 => e = QuotedE (quotedY t.text) ∧ Below w'.heap.size w' w2) := Lib.hid (fun w' hb => yquoted_any t.text w' (by omega) (HV.out.keep hb))
  have CS : Hid (∀ w', Below W1.heap.size W1 w' → Calls Tryz.prog 63 #[.string (bs (compactL t)), .int .i64 0] w' fun e w2 => e = SafeE (compactL t) 0 ∧ Below w'.heap.size w' w2) := Lib.hid (fun w' hb => ysafe_any _ 0 w' (by omega) (HV.out.keep hb))
  unfold vv at HC1 CP ⊢
  unfold writeY
  unfold compP at CP
  obtain ⟨y, hy⟩ : ∃ y, RightB t = y := ⟨_, rfl⟩
  rw [hy] at HC1 CP
  rw [hy]
  clear h hV hy
  cases y with
  | false =>
    rw [if_neg (by simp)]
    clear CP CB CR CQ CS
    go_enter Tryz.func31, Tryz.ntmps31
    go_upto_region 1 with fail
    clear hW1
    obtain ⟨b0, b1, b2, b3⟩ := HXB.out.cells
    go_wp2_with fail
    refine HC1.out.mono ?_
    rintro e w2 ⟨rfl, hb2⟩
    have HB2 := Lib.hid (below_of_new HB1.out hb2)
    clear hb2 b0 b1 b2 b3
    go_wp2_with fail
    go_ret2
    exact ⟨rfl, by first | exact HB2.out | (rw [← hX]; exact HB2.out)⟩
  | true =>
    rw [if_pos rfl]
    rw [if_pos rfl] at CP
    by_cases k4 : t.kind = 4
    · rw [if_pos k4]
      have d4 : (t.kind != 4) = false := by simp [k4]
      have d4b : (t.kind == 4) = true := by simp [k4]
      obtain ⟨q1, hq1⟩ : ∃ q, bareB t.text = q := ⟨_, rfl⟩
      unfold ResE at CR
      obtain ⟨rk, hrk⟩ : ∃ r, (resP t.text).1 = r := ⟨_, rfl⟩
      obtain ⟨rt, hrt⟩ : ∃ r, (resP t.text).2 = r := ⟨_, rfl⟩
      obtain ⟨Q, hQ⟩ : ∃ Q, quotedY t.text = Q := ⟨_, rfl⟩
      rw [hq1] at CB
      rw [hrk, hrt] at CR
      rw [hQ] at CQ
      rw [hq1, hrk, hQ]
      obtain ⟨qt, qe⟩ := Q
      clear CP CS hq1 hrk hrt hQ k4
      unfold QuotedE at CQ
      simp only [] at CQ
      cases q1 with
      | false =>
        rw [Bool.false_and, if_neg (by simp)]
        go_enter Tryz.func31, Tryz.ntmps31
        go_upto_region 1 with fail
        clear hW1
        obtain ⟨b0, b1, b2, b3⟩ := HXB.out.cells
        go_wp2_with fail
        refine HC1.out.mono ?_
        rintro e w2 ⟨rfl, hb2⟩
        have HB2 := Lib.hid hb2
        clear hb2 b0 b1 b2 b3
        obtain ⟨b0, b1, b2, b3⟩ := (HXB.out.keep HB2.out).cells
        go_wp2_with fail
        refine (CB.out _ HB2.out).mono ?_
        rintro e w3 ⟨rfl, hb3⟩
        have HB3 := Lib.hid (below_of_new HB2.out hb3)
        clear hb3 b0 b1 b2 b3
        obtain ⟨b0, b1, b2, b3⟩ := (HXB.out.keep HB3.out).cells
        go_wp2_with fail
        refine (CQ.out _ HB3.out).mono ?_
        rintro e w4 ⟨rfl, hb4⟩
        have HB4 := Lib.hid (below_of_new HB3.out hb4)
        clear hb4 b0 b1 b2 b3
        go_wp2_with fail
        go_ret2
        exact ⟨rfl, by first | exact below_of_new HB1.out HB4.out | (rw [← hX]; exact below_of_new HB1.out HB4.out)⟩
      | true =>
        have hfld : ∀ w, (Instr.field 25 (.agg #[.int .i64 rk, .string (bs rt), .slice none 0 0, .slice none 0 0]) 0).run Tryz.prog w = .ok (.int .i64 rk) w := fun w => by kernel_rfl
        rw [Bool.true_and]
        by_cases r4 : rk = 4
        · rw [if_pos (by simpa using r4)]
          have dr : (rk == 4) = true := by simp [r4]
          clear r4 CQ
          go_enter Tryz.func31, Tryz.ntmps31
          go_upto_region 1 with fail
          clear hW1
          obtain ⟨b0, b1, b2, b3⟩ := HXB.out.cells
          go_wp2_with fail
          refine HC1.out.mono ?_
          rintro e w2 ⟨rfl, hb2⟩
          have HB2 := Lib.hid hb2
          clear hb2 b0 b1 b2 b3
          obtain ⟨b0, b1, b2, b3⟩ := (HXB.out.keep HB2.out).cells
          go_wp2_with fail
          refine (CB.out _ HB2.out).mono ?_
          rintro e w3 ⟨rfl, hb3⟩
          have HB3 := Lib.hid (below_of_new HB2.out hb3)
          clear hb3 b0 b1 b2 b3
          obtain ⟨b0, b1, b2, b3⟩ := (HXB.out.keep HB3.out).cells
          go_wp2_with fail
          refine (CR.out _ HB3.out).mono ?_
          rintro e w4 ⟨rfl, hb4⟩
          have HB4 := Lib.hid (below_of_new HB3.out hb4)
          clear hb4 b0 b1 b2 b3
          obtain ⟨b0, b1, b2, b3⟩ := (HXB.out.keep HB4.out).cells
          go_wp2_with fail
          go_ret2
          exact ⟨rfl, by first | exact below_of_new HB1.out HB4.out | (rw [← hX]; exact below_of_new HB1.out HB4.out)⟩
        · rw [if_neg (by simpa using r4)]
          have dr : (rk == 4) = false := by simp [r4]
          clear r4
          go_enter Tryz.func31, Tryz.ntmps31
          go_upto_region 1 with fail
          clear hW1
          obtain ⟨b0, b1, b2, b3⟩ := HXB.out.cells
          go_wp2_with fail
          refine HC1.out.mono ?_
          rintro e w2 ⟨rfl, hb2⟩
          have HB2 := Lib.hid hb2
          clear hb2 b0 b1 b2 b3
          obtain ⟨b0, b1, b2, b3⟩ := (HXB.out.keep HB2.out).cells
          go_wp2_with fail
          refine (CB.out _ HB2.out).mono ?_
          rintro e w3 ⟨rfl, hb3⟩
          have HB3 := Lib.hid (below_of_new HB2.out hb3)
          clear hb3 b0 b1 b2 b3
          obtain ⟨b0, b1, b2, b3⟩ := (HXB.out.keep HB3.out).cells
          go_wp2_with fail
          refine (CR.out _ HB3.out).mono ?_
          rintro e w4 ⟨rfl, hb4⟩
          have HB4 := Lib.hid (below_of_new HB3.out hb4)
          clear hb4 b0 b1 b2 b3
          obtain ⟨b0, b1, b2, b3⟩ := (HXB.out.keep HB4.out).cells
          go_wp2_with fail
          refine (CQ.out _ HB4.out).mono ?_
          rintro e w5 ⟨rfl, hb5⟩
          have HB5 := Lib.hid (below_of_new HB4.out hb5)
          clear hb5 b0 b1 b2 b3
          go_wp2_with fail
          go_ret2
          exact ⟨rfl, by first | exact below_of_new HB1.out HB5.out | (rw [← hX]; exact below_of_new HB1.out HB5.out)⟩
    · rw [if_neg k4]
      have d4 : (t.kind != 4) = true := by simp [k4]
      unfold SafeE at CS
      unfold QuotedE at CP
      simp only [] at CP
      obtain ⟨C, hC⟩ : ∃ C, compactL t = C := ⟨_, rfl⟩
      obtain ⟨Z, hZ⟩ : ∃ Z, safeL C = Z := ⟨_, rfl⟩
      rw [hC, hZ] at CS
      rw [hC] at CP
      rw [hC, hZ]
      clear CB CR CQ k4 hC hZ
      go_enter Tryz.func31, Tryz.ntmps31
      go_upto_region 1 with fail
      clear hW1
      obtain ⟨b0, b1, b2, b3⟩ := HXB.out.cells
      go_wp2_with fail
      refine HC1.out.mono ?_
      rintro e w2 ⟨rfl, hb2⟩
      have HB2 := Lib.hid hb2
      clear hb2 b0 b1 b2 b3
      obtain ⟨b0, b1, b2, b3⟩ := (HXB.out.keep HB2.out).cells
      go_wp2_with fail
      refine (CP.out _ HB2.out).mono ?_
      rintro e w3 ⟨rfl, hb3⟩
      have HB3 := Lib.hid (below_of_new HB2.out hb3)
      clear hb3 b0 b1 b2 b3
      go_wp2_with fail
      refine (CS.out _ HB3.out).mono ?_
      rintro e w4 ⟨rfl, hb4⟩
      have HB4 := Lib.hid (below_of_new HB3.out hb4)
      clear hb4
      go_wp2_with fail
      go_ret2
      exact ⟨rfl, by first | exact below_of_new HB1.out HB4.out | (rw [← hX]; exact below_of_new HB1.out HB4.out)⟩
set_option maxRecDepth 100000 in
set_option maxHeartbeats 1000000 in
theorem ywritekey_any (s : Stp) (w : World) (hs : s.length ≤ 16777216) (hV : YVar w) :
    Calls Tryz.prog 33 #[.string (bs s)] w fun e w' => e = QuotedE (keyY s) ∧ Below w.heap.size w w' := by
  have C1 := valid_any (bs s) w (by rw [bs_size]; omega) hV.1.1
  rw [validRes_snd, bs_data] at C1
  obtain ⟨N, hN⟩ : ∃ N, (validRes (bs s)).1 = N := ⟨_, rfl⟩
  rw [hN] at C1
  have CB : Hid (∀ w', Below w.heap.size w w' → Calls Tryz.prog 40 #[.string (bs s)] w' fun e w2 => e = .returned (.bool (bareB s)) ∧ Below w'.heap.size w' w2) := Lib.hid (fun w' hb => ybare_any s w' (by omega) (hV.keep hb))
  have CQ : Hid (∀ w', Below w.heap.size w w' → Calls Tryz.prog 65 #[.string (bs s)] w' fun e w2 => e = QuotedE (quotedY s) ∧ Below w'.heap.size w' w2) := Lib.hid (fun w' hb => yquoted_any s w' (by omega) (hV.keep hb))
  unfold keyY
  obtain ⟨q0, hq0⟩ : ∃ q, Lib.validD s = q := ⟨_, rfl⟩
  obtain ⟨q1, hq1⟩ : ∃ q, bareB s = q := ⟨_, rfl⟩
  obtain ⟨Q, hQ⟩ : ∃ Q, quotedY s = Q := ⟨_, rfl⟩
  rw [hq0] at C1
  rw [hq1] at CB
  rw [hQ] at CQ
  rw [hq0, hq1, hQ]
  obtain ⟨qt, qe⟩ := Q
  have HC1 := Lib.hid C1
  unfold QuotedE at CQ
  simp only [] at CQ
  clear C1 hN hq0 hq1 hQ hV
  cases q0 with
  | false =>
    rw [if_neg (by simp)]
    go_enter Tryz.func33, Tryz.ntmps33
    go_wp2_with fail
    refine HC1.out.mono ?_
    rintro e w2 ⟨rfl, hb2⟩
    have HB2 := Lib.hid hb2
    clear hb2
    go_wp2_with fail
    go_ret2
    exact ⟨rfl, HB2.out⟩
  | true =>
    rw [if_pos rfl]
    go_enter Tryz.func33, Tryz.ntmps33
    go_wp2_with fail
    refine HC1.out.mono ?_
    rintro e w2 ⟨rfl, hb2⟩
    have HB2 := Lib.hid hb2
    clear hb2
    go_wp2_with fail
    refine (CB.out _ HB2.out).mono ?_
    rintro e w3 ⟨rfl, hb3⟩
    have HB3 := Lib.hid (below_of_new HB2.out hb3)
    clear hb3
    cases q1 with
    | true =>
      go_wp2_with fail
      go_ret2
      exact ⟨rfl, HB3.out⟩
    | false =>
      go_wp2_with fail
      refine (CQ.out _ HB3.out).mono ?_
      rintro e w4 ⟨rfl, hb4⟩
      have HB4 := Lib.hid (below_of_new HB3.out hb4)
      clear hb4
      go_wp2_with fail
      go_ret2
      exact ⟨rfl, HB4.out⟩
end Go.Proofs.YtnnlpkbopeiefaaGreatDoor
