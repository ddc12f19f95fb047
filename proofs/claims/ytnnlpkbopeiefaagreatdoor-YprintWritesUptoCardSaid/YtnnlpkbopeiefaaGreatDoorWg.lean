import Derived.Test.YtnnlpkbopeiefaaGreatDoorWe
/-! yprint: plain, and the walks. Printed by mkwg.py. -/
namespace Go.Proofs.YtnnlpkbopeiefaaGreatDoor
set_option linter.unusedSimpArgs false
set_option linter.unusedVariables false
open Go.RowKit
open Go.Lib hiding intOf
mutual
def ybehL : VT → Nat → Stp
  | .mk k s ks l, ind => if l.isEmpty then 32 :: ((writeY (.mk k s ks l)).1 ++ [10]) else 10 :: (if k = 6 then ymemL l ks (ind + 2) else yitemL l (ind + 2))
def yitemL : List VT → Nat → Stp
  | [], _ => []
  | x :: l, ind => (List.replicate ind 32 ++ [45] ++ ybehL x ind) ++ yitemL l ind
def ymemL : List VT → List Stp → Nat → Stp
  | [], _, _ => []
  | x :: l, ks, ind => (List.replicate ind 32 ++ ((keyY (ks.headD [])).1 ++ [58]) ++ ybehL x ind) ++ ymemL l ks.tail ind
end
def blockL (t : VT) (ind : Nat) : Stp := if t.kind = 6 then ymemL t.items t.keys ind else yitemL t.items ind
theorem ybehL_eq (t : VT) (ind : Nat) : ybehL t ind = (if t.items.isEmpty then 32 :: ((writeY t).1 ++ [10]) else 10 :: blockL t (ind + 2)) := by cases t; rw [ybehL]; rfl
theorem yitemL_app (a : List VT) (x : VT) (ind : Nat) : yitemL (a ++ [x]) ind = yitemL a ind ++ (List.replicate ind 32 ++ [45] ++ ybehL x ind) := by
  induction a with
  | nil => simp [yitemL]
  | cons y a ih => rw [List.cons_append, yitemL, yitemL, ih]; simp only [List.append_assoc]
theorem ymemL_app (a : List VT) (x : VT) (ind : Nat) : ∀ (ks : List Stp) (k : Stp), ks[a.length]? = some k → ymemL (a ++ [x]) ks ind = ymemL a ks ind ++ (List.replicate ind 32 ++ ((keyY k).1 ++ [58]) ++ ybehL x ind) := by
  induction a with
  | nil =>
    intro ks k hk
    cases ks with
    | nil => simp at hk
    | cons k0 ks => simp at hk; subst hk; simp [ymemL]
  | cons y a ih =>
    intro ks k hk
    cases ks with
    | nil => simp at hk
    | cons k0 ks =>
      rw [List.cons_append, ymemL, ymemL]
      simp only [List.tail_cons]
      rw [ih ks k (by simpa using hk)]
      simp only [List.append_assoc]
theorem sqw_len (s : Stp) : (sqw s).1.length ≤ 2 * s.length + 2 := by
  unfold sqw
  split
  · simp
  · have := (dbl_len s).2
    simp only [List.length_cons, List.length_append, List.length_nil]
    omega
theorem quotedY_len (s : Stp) : (quotedY s).1.length ≤ 336 * s.length + 172 := by
  unfold quotedY
  split
  · have := sqw_len s; omega
  · have h1 := safeL_len (quoteL s).1
    have h2 := quoteL_len s
    simp only []
    omega
theorem keyY_len (s : Stp) : (keyY s).1.length ≤ 336 * s.length + 172 := by
  unfold keyY
  split
  · split
    · simp only []; omega
    · exact quotedY_len s
  · simp
theorem writeY_len (t : VT) : (writeY t).1.length ≤ 700 * t.bulk + 172 := by
  have h1 := compact_len t
  have h2 := safeL_len (compactL t)
  have h3 := quotedY_len t.text
  have hbt : t.text.length < t.bulk := by cases t; rw [VT.bulk]; simp only [VT.text]; omega
  unfold writeY
  split
  · split
    · split
      · simp only []; omega
      · omega
    · simp only []; omega
  · simp
mutual
theorem ybeh_len : ∀ (t : VT) (ind : Nat), ind + 2 * t.depth ≤ 1024 → (ybehL t ind).length ≤ 2100 * t.bulk - 1200
  | .mk k s ks l, ind, h => by
    rw [VT.depth] at h
    have h1 := writeY_len (.mk k s ks l)
    have h2 := yitem_len l (ind + 2) (by omega)
    have h3 := ymem_len l ks (ind + 2) (by omega)
    rw [ybehL]
    have hb : (VT.mk k s ks l).bulk = s.length + (totS ks + ks.length) + bulks l + 1 := by rw [VT.bulk]
    rw [hb] at h1 ⊢
    split
    · simp only [List.length_cons, List.length_append, List.length_nil]
      omega
    · rename_i hl
      have hll : 0 < bulks l := by
        cases l with
        | nil => simp at hl
        | cons x l => rw [bulks]; have := size_pos x; have := size_le_bulk x; omega
      split
      · simp only [List.length_cons]
        omega
      · simp only [List.length_cons]
        omega
theorem yitem_len : ∀ (l : List VT) (ind : Nat), ind + 2 * depths l ≤ 1024 → (yitemL l ind).length ≤ 2100 * bulks l
  | [], ind, h => by simp [yitemL]
  | x :: l, ind, h => by
    rw [depths] at h
    have h1 := ybeh_len x ind (by omega)
    have h2 := yitem_len l ind (by omega)
    have h3 := size_pos x
    have h4 := size_le_bulk x
    rw [yitemL, bulks]
    simp only [List.length_append, List.length_replicate, List.length_cons, List.length_nil]
    omega
theorem ymem_len : ∀ (l : List VT) (ks : List Stp) (ind : Nat), ind + 2 * depths l ≤ 1024 → (ymemL l ks ind).length ≤ 2100 * bulks l + 336 * totS ks
  | [], ks, ind, h => by simp [ymemL]
  | x :: l, ks, ind, h => by
    rw [depths] at h
    have h1 := ybeh_len x ind (by omega)
    have h2 := ymem_len l ks.tail ind (by omega)
    have h3 := size_pos x
    have h4 := size_le_bulk x
    have h5 := keyY_len (ks.headD [])
    have h6 : totS ks = (ks.headD []).length + totS ks.tail := by cases ks <;> simp [totS]
    rw [ymemL, bulks]
    simp only [List.length_append, List.length_replicate, List.length_cons, List.length_nil]
    omega
end
theorem yT : EbT 65 (([] : List Value).length + 2) := ⟨by kernel_rfl, by decide⟩
abbrev YN (B b : Nat) (l : Stp) (w : World) : Prop := EbN 65 [] B b l w
theorem rep_list (c : UInt8) (n : Nat) : Lib.repeatL [c] n = List.replicate n c := by
  induction n with
  | zero => rfl
  | succ n ih => rw [Lib.repeatL, ih]; rfl
theorem yrep_any (n : Nat) (w : World) (hn : n ≤ 4294967296) :
    Calls Tryz.prog 107 #[.string ⟨#[32]⟩, .int .i64 (n : Int)] w fun e w' => e = .returned (.string (bs (List.replicate n 32))) ∧ Below w.heap.size w w' := by
  have hsz : (⟨#[32]⟩ : ByteArray).size = 1 := rfl
  have h := Tryz.strings_Repeat ⟨#[32]⟩ n w (by omega) (by rw [hsz]; omega)
  rw [show (⟨#[32]⟩ : ByteArray).data.toList = [32] from rfl, rep_list] at h
  exact h
set_option maxRecDepth 100000 in
set_option maxHeartbeats 1000000 in
theorem yhead_any (w0 : World) (b : Nat) (l s : Stp) (ind : Nat) (w : World) (h : YN w0.heap.size b l w) (hb0 : Below w0.heap.size w0 w) (hl : l.length ≤ 4294966000) (hi : ind ≤ 1024) (hs : s.length ≤ 4294967296) :
    Calls Tryz.prog 56 #[.pointer (some ⟨b, 0, none⟩), .int .i64 (ind : Int), .string (bs s)] w fun e w' => e = .returned (.tuple #[]) ∧ YN w0.heap.size b (l ++ (List.replicate ind 32 ++ s)) w' ∧ Kp w0.heap.size b w w' := by
  have hBw : w0.heap.size ≤ w.heap.size := hb0.size
  have H := Lib.hid h
  have HR := Lib.hid (fun w => yrep_any ind w (by omega))
  have HS1 : Hid (∀ w', Below w.heap.size w w' → Calls Tryz.prog 106 #[.pointer (some ⟨b, 0, none⟩), .string (bs (List.replicate ind 32))] w' fun e w2 => e = .returned (.tuple #[.int .i64 ((List.replicate ind (32 : UInt8)).length : Int), .nilIface]) ∧ EbW 65 [] w0.heap.size b (l ++ List.replicate ind 32) w' w2) := Lib.hid (fun w' hb => ebStr_any yT w0.heap.size b l _ w' (H.out.keep hb) (by omega) (by rw [List.length_replicate]; omega) (Nat.le_trans hBw hb.size))
  have HS2 : Hid (∀ w', YN w0.heap.size b (l ++ List.replicate ind 32) w' → w0.heap.size ≤ w'.heap.size → Calls Tryz.prog 106 #[.pointer (some ⟨b, 0, none⟩), .string (bs s)] w' fun e w2 => e = .returned (.tuple #[.int .i64 (s.length : Int), .nilIface]) ∧ EbW 65 [] w0.heap.size b (l ++ List.replicate ind 32 ++ s) w' w2) := Lib.hid (fun w' hy hz => ebStr_any yT w0.heap.size b _ s w' hy (by rw [List.length_append, List.length_replicate]; omega) hs hz)
  have hbs := bs_size (List.replicate ind (32 : UInt8))
  obtain ⟨RP, hRP⟩ : ∃ R, List.replicate ind (32 : UInt8) = R := ⟨_, rfl⟩
  rw [hRP] at HR HS1 HS2 hbs ⊢
  clear h hRP
  go_enter Tryz.func56, Tryz.ntmps56
  go_upto_region 0 with fail
  go_region_law ((first
    | (go_simp; go_at_call 107; (refine (HR.out _).mono ?_); rintro e w2 ⟨rfl, hb2⟩)
    | (go_simp; go_at_call 106; (refine (HS1.out _ (below_of_new (Below.refl _ _).drew (by assumption))).mono ?_); rintro e w3 ⟨rfl, h2, h3, h4⟩)))
  all_goals
    have H2 := Lib.hid h2
    have HK2 : Hid (Kp w0.heap.size b w w3) := Lib.hid (Kp.trans (Kp.of_below (below_of_new (Below.refl _ w).drew (by assumption)) hBw) ⟨h3, h4⟩)
    clear h2 h3 h4
    go_wp2_with fail
    refine (HS2.out _ H2.out (Nat.le_trans hBw HK2.out.size)).mono ?_
    rintro e w4 ⟨rfl, h2, h3, h4⟩
    have H4 := Lib.hid h2
    have HK4 : Hid (Kp w0.heap.size b w w4) := Lib.hid (HK2.out.trans ⟨h3, h4⟩)
    clear h2 h3 h4
    go_wp2_with fail
    go_end0
    exact ⟨rfl, by rw [← List.append_assoc]; exact H4.out, HK4.out⟩
theorem cat_line (l : Stp) : (⟨#[32]⟩ : ByteArray) ++ bs l ++ ⟨#[10]⟩ = bs (32 :: (l ++ [10])) := by
  have h1 : (⟨#[32]⟩ : ByteArray) = bs [32] := rfl
  have h2 : (⟨#[10]⟩ : ByteArray) = bs [10] := rfl
  rw [h1, h2, bs_append, bs_append]; rfl
theorem cat_colon (l : Stp) : bs l ++ (⟨#[58]⟩ : ByteArray) = bs (l ++ [58]) := by
  have h1 : (⟨#[58]⟩ : ByteArray) = bs [58] := rfl
  rw [h1, bs_append]
end Go.Proofs.YtnnlpkbopeiefaaGreatDoor
/-! yprint: the walks of behind, item, member, block. Printed by mkwg.py. -/
namespace Go.Proofs.YtnnlpkbopeiefaaGreatDoor
set_option linter.unusedSimpArgs false
set_option linter.unusedVariables false
open Go.RowKit
open Go.Lib hiding intOf
theorem VD.deep {w : World} : ∀ {n : Nat} {t : VT} {kv iv : Value}, VD w n t kv iv → t.depth ≤ n
  | 0, _, _, _, h => h.elim
  | n + 1, t, kv, iv, h => by
    obtain ⟨h1, p, c, h2, h3, h4⟩ := h
    obtain ⟨k, s, ks, l⟩ := t
    rw [VT.depth]
    rcases h4 with h4 | ⟨g, o, h4, h5, h6⟩
    · obtain rfl : l = [] := h4
      rw [depths]; omega
    · have key : ∀ (l : List VT), (∀ x ∈ l, x.depth ≤ n) → depths l ≤ n := by
        intro l
        induction l with
        | nil => intro _; rw [depths]; omega
        | cons x l ih =>
          intro hx
          rw [depths]
          have h1 := hx x List.mem_cons_self
          have h2 := ih (fun y hy => hx y (List.mem_cons_of_mem _ hy))
          omega
      have := key l (fun x hx => by
        obtain ⟨j, hj⟩ := List.getElem?_of_mem hx
        obtain ⟨kv', iv', e0, e1, e2, e3, e4⟩ := h6 j x hj
        exact e4.deep)
      omega
def YBl (w0 : World) (n : Nat) : Prop := ∀ (b : Nat) (t : VT) (kv iv : Value) (w : World) (l : Stp) (ind : Nat), VD w0 n t kv iv → everyB rnodeB t = true → YN w0.heap.size b l w → Below w0.heap.size w0 w → l.length + 2100 * t.bulk ≤ 4294960000 → ind + 2 * n ≤ 1026 →
  Calls Tryz.prog 54 #[.pointer (some ⟨b, 0, none⟩), vv t kv iv, .int .i64 (ind : Int)] w fun e w' => e = .returned (.tuple #[]) ∧ YN w0.heap.size b (l ++ blockL t ind) w' ∧ Kp w0.heap.size b w w'
def YBh (w0 : World) (n : Nat) : Prop := ∀ (b : Nat) (t : VT) (kv iv : Value) (w : World) (l : Stp) (ind : Nat), VD w0 n t kv iv → everyB rnodeB t = true → YN w0.heap.size b l w → Below w0.heap.size w0 w → l.length + 1 + 2100 * t.bulk ≤ 4294960000 → ind + 2 * n ≤ 1024 →
  Calls Tryz.prog 57 #[.pointer (some ⟨b, 0, none⟩), vv t kv iv, .int .i64 (ind : Int)] w fun e w' => e = .returned (.tuple #[]) ∧ YN w0.heap.size b (l ++ ybehL t ind) w' ∧ Kp w0.heap.size b w w'
set_option maxRecDepth 100000 in
set_option maxHeartbeats 1000000 in
theorem ybehind_of (w0 : World) (hV : YVar w0) (n : Nat) (IH : YBl w0 n) : YBh w0 n := by
  intro b t kv iv w l ind hvd hev h hb0 hl hi
  obtain ⟨pk, ck, p, c, rfl, rfl⟩ := hvd.form
  have hBw : w0.heap.size ≤ w.heap.size := hb0.size
  obtain ⟨X, hX⟩ : ∃ X, w.heap.size = X := ⟨_, rfl⟩
  obtain ⟨W1, hW1⟩ : ∃ W, w.alloc (.cells #[.int .i64 t.kind, .string (bs t.text), .slice pk t.keys.length ck, .slice p t.items.length c] 25) = W := ⟨_, rfl⟩
  have HB1 : Hid (Below w.heap.size w W1) := Lib.hid (by rw [← hW1]; exact below_alloc1 _ _)
  have HXB : Hid (VBox W1 X t (.slice pk t.keys.length ck) (.slice p t.items.length c)) := Lib.hid (by rw [← hW1, ← hX]; exact VBox.new w t _ _)
  have HB01 := Lib.hid (hb0.trans (HB1.out.mono hBw))
  have hXb : X ≠ b := by rw [← hX]; exact Nat.ne_of_gt h.lt
  have hBX : w0.heap.size ≤ X := by omega
  have HKW : Hid (Kp w0.heap.size b w W1) := Lib.hid (Kp.of_below HB1.out hBw)
  have H1 := Lib.hid (h.keep HB1.out)
  rw [ybehL_eq]
  unfold vv
  have ed : ((ind + 2 : Nat) : Int) = (ind : Int) + 2 := by omega
  cases hem : t.items.isEmpty with
  | true =>
    rw [if_pos rfl]
    have hlz : t.items.length = 0 := by cases hq : t.items with | nil => rfl | cons _ _ => rw [hq] at hem; cases hem
    have HLZ := Lib.hid hlz
    have dl : decide (0 < t.items.length) = false := decide_eq_false (by omega)
    have dl2 : decide ((0 : Int) < (t.items.length : Int)) = false := decide_eq_false (by omega)
    have hwl := writeY_len t
    have HC1 := Lib.hid (ywrite_any n t _ _ W1 (hvd.keep HB01.out) (by omega) (hV.keep HB01.out))
    unfold vv at HC1
    have HC2 : Hid (∀ w', Below W1.heap.size W1 w' → Calls Tryz.prog 106 #[.pointer (some ⟨b, 0, none⟩), .string ((⟨#[32]⟩ : ByteArray) ++ bs (writeY t).1 ++ ⟨#[10]⟩)] w' fun e w2 => e = .returned (.tuple #[.int .i64 ((32 :: ((writeY t).1 ++ [10])).length : Int), .nilIface]) ∧ EbW 65 [] w0.heap.size b (l ++ 32 :: ((writeY t).1 ++ [10])) w' w2) := Lib.hid (fun w' hb => by
      rw [cat_line]
      exact ebStr_any yT w0.heap.size b l _ w' (H1.out.keep hb) (by omega) (by simp only [List.length_cons, List.length_append, List.length_nil]; omega) (Nat.le_trans HB01.out.size hb.size))
    have hsz := bs_size (writeY t).1
    obtain ⟨Q, hQ⟩ : ∃ Q, writeY t = Q := ⟨_, rfl⟩
    rw [hQ] at HC1 HC2 hwl hsz
    rw [hQ]
    obtain ⟨qt, qe⟩ := Q
    unfold QuotedE at HC1
    simp only [] at HC1 HC2 hwl hsz ⊢
    clear hvd hev h hb0 hem hlz hQ
    go_enter Tryz.func57, Tryz.ntmps57
    go_upto_region 1 with fail
    clear hW1
    obtain ⟨b0, b1, b2, b3⟩ := HXB.out.cells
    go_wp2_with fail
    refine HC1.out.mono ?_
    rintro e w2 ⟨rfl, hb2⟩
    have HB2 := Lib.hid hb2
    clear hb2 b0 b1 b2 b3
    go_wp2_with fail
    refine (HC2.out _ HB2.out).mono ?_
    rintro e w3 ⟨rfl, h2, h3, h4⟩
    have H3 := Lib.hid h2
    have HK3 : Hid (Kp w0.heap.size b w w3) := Lib.hid (HKW.out.trans (Kp.trans (Kp.of_below HB2.out HB01.out.size) ⟨h3, h4⟩))
    clear h2 h3 h4
    go_wp2_with fail
    go_end0
    exact ⟨rfl, H3.out, HK3.out⟩
  | false =>
    rw [if_neg (by simp)]
    have hlz : 0 < t.items.length := by cases hq : t.items with | nil => rw [hq] at hem; cases hem | cons _ _ => simp
    have dl : decide (0 < t.items.length) = true := decide_eq_true hlz
    have dl2 : decide ((0 : Int) < (t.items.length : Int)) = true := decide_eq_true (by omega)
    have HC1 : Hid (Calls Tryz.prog 108 #[.pointer (some ⟨b, 0, none⟩), .int .u8 10] W1 fun e w2 => e = .returned .nilIface ∧ EbW 65 [] w0.heap.size b (l ++ [10]) W1 w2) := Lib.hid (ebByte_any yT w0.heap.size b l 10 W1 H1.out (by omega) HB01.out.size)
    have HC2 : Hid (∀ w', YN w0.heap.size b (l ++ [10]) w' → Below w0.heap.size w0 w' → Calls Tryz.prog 54 #[.pointer (some ⟨b, 0, none⟩), vv t (.slice pk t.keys.length ck) (.slice p t.items.length c), .int .i64 ((ind + 2 : Nat) : Int)] w' fun e w2 => e = .returned (.tuple #[]) ∧ YN w0.heap.size b (l ++ [10] ++ blockL t (ind + 2)) w2 ∧ Kp w0.heap.size b w' w2) := Lib.hid (fun w' hy hb => IH b t _ _ w' (l ++ [10]) (ind + 2) hvd hev hy hb (by simp only [List.length_append, List.length_singleton]; omega) (by omega))
    rw [ed] at HC2
    unfold vv at HC2
    clear hvd hev h hb0 hem hlz
    go_enter Tryz.func57, Tryz.ntmps57
    go_upto_region 1 with fail
    clear hW1
    obtain ⟨b0, b1, b2, b3⟩ := HXB.out.cells
    go_wp2_with fail
    refine HC1.out.mono ?_
    rintro e w2 ⟨rfl, h2, h3, h4⟩
    have H2 := Lib.hid h2
    have HK2 : Hid (Kp w0.heap.size b W1 w2) := Lib.hid ⟨h3, h4⟩
    clear h2 h3 h4 b0 b1 b2 b3
    obtain ⟨b0, b1, b2, b3⟩ := (HXB.out.kp HK2.out hXb).cells
    go_wp2_with fail
    refine (HC2.out _ H2.out (HB01.out.trans HK2.out.1)).mono ?_
    rintro e w3 ⟨rfl, h2, h3⟩
    have H3 := Lib.hid h2
    have HK3 : Hid (Kp w0.heap.size b w w3) := Lib.hid (HKW.out.trans (HK2.out.trans h3))
    clear h2 h3 b0 b1 b2 b3
    go_wp2_with fail
    (try simp only [Exit.inBlock, Exit.then])
    refine bodyPost_ret (results_none rfl _ _ _) rfl ?_
    exact ⟨rfl, by simpa using H3.out, HK3.out⟩
set_option maxRecDepth 100000 in
set_option maxHeartbeats 1000000 in
theorem yitem_any (w0 : World) (n : Nat) (IH : YBh w0 n) (b : Nat) (t : VT) (pk : Option Addr) (ck : Nat) (p : Option Addr) (c : Nat) (i : Nat) (x : VT) (w : World) (l : Stp) (ind : Nat) (hit : Items w0 n p t.items) (hx : t.items[i]? = some x) (hev : everyB rnodeB x = true) (h : YN w0.heap.size b l w) (hb0 : Below w0.heap.size w0 w) (hlc : t.items.length ≤ 1073741824) (hl : l.length + 1026 + 2100 * x.bulk ≤ 4294960000) (hi : ind + 2 * n ≤ 1024) :
    Calls Tryz.prog 104 #[.pointer (some ⟨b, 0, none⟩), vv t (.slice pk t.keys.length ck) (.slice p t.items.length c), .int .i64 (i : Int), .int .i64 (ind : Int)] w fun e w' => e = .returned (.tuple #[]) ∧ YN w0.heap.size b (l ++ (List.replicate ind 32 ++ [45] ++ ybehL x ind)) w' ∧ Kp w0.heap.size b w w' := by
  have hBw : w0.heap.size ≤ w.heap.size := hb0.size
  obtain ⟨X, hX⟩ : ∃ X, w.heap.size = X := ⟨_, rfl⟩
  obtain ⟨W1, hW1⟩ : ∃ W, w.alloc (.cells #[.int .i64 t.kind, .string (bs t.text), .slice pk t.keys.length ck, .slice p t.items.length c] 25) = W := ⟨_, rfl⟩
  have HB1 : Hid (Below w.heap.size w W1) := Lib.hid (by rw [← hW1]; exact below_alloc1 _ _)
  have HXB : Hid (VBox W1 X t (.slice pk t.keys.length ck) (.slice p t.items.length c)) := Lib.hid (by rw [← hW1, ← hX]; exact VBox.new w t _ _)
  have HB01 := Lib.hid (hb0.trans (HB1.out.mono hBw))
  have hXb : X ≠ b := by rw [← hX]; exact Nat.ne_of_gt h.lt
  have hBX : w0.heap.size ≤ X := by omega
  have HKW : Hid (Kp w0.heap.size b w W1) := Lib.hid (Kp.of_below HB1.out hBw)
  have H1 := Lib.hid (h.keep HB1.out)
  have HIT := Lib.hid hit
  have HX := Lib.hid hx
  have HEV := Lib.hid hev
  have hil := (List.getElem?_eq_some_iff.1 hx).1
  have hi1 : (i : Int) < (t.items.length : Int) := by omega
  have hi0 : (0 : Int) ≤ (i : Int) := by omega
  have HH : Hid (Calls Tryz.prog 56 #[.pointer (some ⟨b, 0, none⟩), .int .i64 (ind : Int), .string ⟨#[45]⟩] W1 fun e w2 => e = .returned (.tuple #[]) ∧ YN w0.heap.size b (l ++ (List.replicate ind 32 ++ [45])) w2 ∧ Kp w0.heap.size b W1 w2) := Lib.hid (yhead_any w0 b l [45] ind W1 H1.out HB01.out (by omega) (by omega) (by decide))
  have hbl : (l ++ (List.replicate ind 32 ++ [45]) : Stp).length ≤ l.length + 1025 := by simp only [List.length_append, List.length_replicate, List.length_singleton]; omega
  obtain ⟨A, hA⟩ : ∃ A, l ++ (List.replicate ind 32 ++ [45]) = A := ⟨_, rfl⟩
  rw [hA] at HH hbl
  have hg2 : l ++ (List.replicate ind 32 ++ [45] ++ ybehL x ind) = A ++ ybehL x ind := by rw [← hA]; simp only [List.append_assoc]
  rw [hg2]
  unfold vv
  clear hit hx hev h hb0 hA hg2
  go_enter Tryz.func104, Tryz.ntmps104
  go_upto_region 1 with fail
  clear hW1
  go_wp2_with fail
  refine HH.out.mono ?_
  rintro e w2 ⟨rfl, h2, h3⟩
  have H2 := Lib.hid h2
  have HK2 := Lib.hid h3
  have HB2 := Lib.hid (HB01.out.trans h3.1)
  clear h2 h3
  obtain ⟨b0, b1, b2, b3⟩ := (HXB.out.kp HK2.out hXb).cells
  obtain ⟨g, o, kv', iv', rfl, hg, n0, n1, n2, n3, hvd⟩ := HIT.out i x HX.out
  obtain ⟨pk2, ck2, px, cx, rfl, rfl⟩ := hvd.form
  have m0 : w2.cell? ⟨g, o + i * 4, none⟩ = some (.int .i64 x.kind) := by rw [HB2.out.cell (p := ⟨g, _, none⟩) hg]; exact n0
  have m1 : w2.cell? ⟨g, o + i * 4 + 1, none⟩ = some (.string (bs x.text)) := by rw [HB2.out.cell (p := ⟨g, _, none⟩) hg]; exact n1
  have m2 : w2.cell? ⟨g, o + i * 4 + 2, none⟩ = some (.slice pk2 x.keys.length ck2) := by rw [HB2.out.cell (p := ⟨g, _, none⟩) hg]; exact n2
  have m3 : w2.cell? ⟨g, o + i * 4 + 3, none⟩ = some (.slice px x.items.length cx) := by rw [HB2.out.cell (p := ⟨g, _, none⟩) hg]; exact n3
  have HC := Lib.hid (IH b x _ _ w2 A ind hvd HEV.out H2.out HB2.out (by omega) hi)
  unfold vv at HC
  clear hvd n0 n1 n2 n3
  go_wp2_with fail
  refine HC.out.mono ?_
  rintro e w4 ⟨rfl, h2, h3⟩
  have H4 := Lib.hid h2
  have HK : Hid (Kp w0.heap.size b w w4) := Lib.hid (HKW.out.trans (HK2.out.trans h3))
  clear h2 h3 b0 b1 b2 b3 m0 m1 m2 m3
  go_wp2_with fail
  go_end0
  exact ⟨rfl, H4.out, HK.out⟩
set_option maxRecDepth 100000 in
set_option maxHeartbeats 1000000 in
theorem ymember_any (w0 : World) (hV : YVar w0) (n : Nat) (IH : YBh w0 n) (b : Nat) (t : VT) (pk : Option Addr) (ck : Nat) (p : Option Addr) (c : Nat) (i : Nat) (x : VT) (k : Stp) (w : World) (l : Stp) (ind : Nat) (hlies : SLies w0 pk t.keys) (hk : t.keys[i]? = some k) (hkl : t.keys.length ≤ 1073741824) (hkb : k.length ≤ 8388608) (hit : Items w0 n p t.items) (hx : t.items[i]? = some x) (hev : everyB rnodeB x = true) (h : YN w0.heap.size b l w) (hb0 : Below w0.heap.size w0 w) (hlc : t.items.length ≤ 1073741824) (hl : l.length + 1026 + 336 * k.length + 174 + 2100 * x.bulk ≤ 4294960000) (hi : ind + 2 * n ≤ 1024) :
    Calls Tryz.prog 105 #[.pointer (some ⟨b, 0, none⟩), vv t (.slice pk t.keys.length ck) (.slice p t.items.length c), .int .i64 (i : Int), .int .i64 (ind : Int)] w fun e w' => e = .returned (.tuple #[]) ∧ YN w0.heap.size b (l ++ (List.replicate ind 32 ++ ((keyY k).1 ++ [58]) ++ ybehL x ind)) w' ∧ Kp w0.heap.size b w w' := by
  have hBw : w0.heap.size ≤ w.heap.size := hb0.size
  obtain ⟨X, hX⟩ : ∃ X, w.heap.size = X := ⟨_, rfl⟩
  obtain ⟨W1, hW1⟩ : ∃ W, w.alloc (.cells #[.int .i64 t.kind, .string (bs t.text), .slice pk t.keys.length ck, .slice p t.items.length c] 25) = W := ⟨_, rfl⟩
  have HB1 : Hid (Below w.heap.size w W1) := Lib.hid (by rw [← hW1]; exact below_alloc1 _ _)
  have HXB : Hid (VBox W1 X t (.slice pk t.keys.length ck) (.slice p t.items.length c)) := Lib.hid (by rw [← hW1, ← hX]; exact VBox.new w t _ _)
  have HB01 := Lib.hid (hb0.trans (HB1.out.mono hBw))
  have hXb : X ≠ b := by rw [← hX]; exact Nat.ne_of_gt h.lt
  have hBX : w0.heap.size ≤ X := by omega
  have HKW : Hid (Kp w0.heap.size b w W1) := Lib.hid (Kp.of_below HB1.out hBw)
  have H1 := Lib.hid (h.keep HB1.out)
  have HIT := Lib.hid hit
  have HX := Lib.hid hx
  have HEV := Lib.hid hev
  have hil := (List.getElem?_eq_some_iff.1 hx).1
  have hi1 : (i : Int) < (t.items.length : Int) := by omega
  have hi0 : (0 : Int) ≤ (i : Int) := by omega
  obtain ⟨gk, ok, rfl, hck0⟩ := (hlies.keep HB01.out).at_ hk
  have hkil := (List.getElem?_eq_some_iff.1 hk).1
  have hi1k : (i : Int) < (t.keys.length : Int) := by omega
  have hkyl := keyY_len k
  have HC0 := Lib.hid (ywritekey_any k W1 (by omega) (hV.keep HB01.out))
  have hbl : (l ++ (List.replicate ind 32 ++ ((keyY k).1 ++ [58])) : Stp).length ≤ l.length + 1025 + 336 * k.length + 172 := by simp only [List.length_append, List.length_replicate, List.length_singleton]; omega
  have HH : Hid (∀ w', Below W1.heap.size W1 w' → Calls Tryz.prog 56 #[.pointer (some ⟨b, 0, none⟩), .int .i64 (ind : Int), .string (bs (keyY k).1 ++ ⟨#[58]⟩)] w' fun e w2 => e = .returned (.tuple #[]) ∧ YN w0.heap.size b (l ++ (List.replicate ind 32 ++ ((keyY k).1 ++ [58]))) w2 ∧ Kp w0.heap.size b w' w2) := Lib.hid (fun w' hb => by
    rw [cat_colon]
    exact yhead_any w0 b l ((keyY k).1 ++ [58]) ind w' (H1.out.keep hb) (HB01.out.trans (hb.mono HB01.out.size)) (by omega) (by omega) (by simp only [List.length_append, List.length_singleton]; omega))
  have hsz := bs_size (keyY k).1
  unfold QuotedE at HC0
  obtain ⟨Q, hQ⟩ : ∃ Q, keyY k = Q := ⟨_, rfl⟩
  rw [hQ] at HC0 HH hbl hkyl hsz ⊢
  obtain ⟨qt, qe⟩ := Q
  simp only [] at HC0 HH hbl hkyl hsz ⊢
  obtain ⟨A, hA⟩ : ∃ A, l ++ (List.replicate ind 32 ++ (qt ++ [58])) = A := ⟨_, rfl⟩
  rw [hA] at HH hbl
  have hg2 : l ++ (List.replicate ind 32 ++ (qt ++ [58]) ++ ybehL x ind) = A ++ ybehL x ind := by rw [← hA]; simp only [List.append_assoc]
  rw [hg2]
  unfold vv
  clear hit hx hev h hb0 hA hg2 hQ hk hlies
  go_enter Tryz.func105, Tryz.ntmps105
  go_upto_region 1 with fail
  clear hW1
  obtain ⟨b0, b1, b2, b3⟩ := HXB.out.cells
  go_wp2_with fail
  refine HC0.out.mono ?_
  rintro e w1 ⟨rfl, hb1⟩
  have HBk := Lib.hid hb1
  clear hb1 b0 b1 b2 b3 hck0
  go_wp2_with fail
  refine (HH.out _ HBk.out).mono ?_
  rintro e w2 ⟨rfl, h2, h3⟩
  have H2 := Lib.hid h2
  have h3 : Kp w0.heap.size b W1 w2 := (Kp.of_below HBk.out HB01.out.size).trans h3
  have HK2 := Lib.hid h3
  have HB2 := Lib.hid (HB01.out.trans h3.1)
  clear h2 h3
  obtain ⟨b0, b1, b2, b3⟩ := (HXB.out.kp HK2.out hXb).cells
  obtain ⟨g, o, kv', iv', rfl, hg, n0, n1, n2, n3, hvd⟩ := HIT.out i x HX.out
  obtain ⟨pk2, ck2, px, cx, rfl, rfl⟩ := hvd.form
  have m0 : w2.cell? ⟨g, o + i * 4, none⟩ = some (.int .i64 x.kind) := by rw [HB2.out.cell (p := ⟨g, _, none⟩) hg]; exact n0
  have m1 : w2.cell? ⟨g, o + i * 4 + 1, none⟩ = some (.string (bs x.text)) := by rw [HB2.out.cell (p := ⟨g, _, none⟩) hg]; exact n1
  have m2 : w2.cell? ⟨g, o + i * 4 + 2, none⟩ = some (.slice pk2 x.keys.length ck2) := by rw [HB2.out.cell (p := ⟨g, _, none⟩) hg]; exact n2
  have m3 : w2.cell? ⟨g, o + i * 4 + 3, none⟩ = some (.slice px x.items.length cx) := by rw [HB2.out.cell (p := ⟨g, _, none⟩) hg]; exact n3
  have HC := Lib.hid (IH b x _ _ w2 A ind hvd HEV.out H2.out HB2.out (by omega) hi)
  unfold vv at HC
  clear hvd n0 n1 n2 n3
  go_wp2_with fail
  refine HC.out.mono ?_
  rintro e w4 ⟨rfl, h2, h3⟩
  have H4 := Lib.hid h2
  have HK : Hid (Kp w0.heap.size b w w4) := Lib.hid (HKW.out.trans (HK2.out.trans h3))
  clear h2 h3 b0 b1 b2 b3 m0 m1 m2 m3
  go_wp2_with fail
  go_end0
  exact ⟨rfl, H4.out, HK.out⟩
end Go.Proofs.YtnnlpkbopeiefaaGreatDoor
/-! yprint: the walk of block. Printed by mkwg.py. -/
namespace Go.Proofs.YtnnlpkbopeiefaaGreatDoor
set_option linter.unusedSimpArgs false
set_option linter.unusedVariables false
open Go.RowKit
open Go.Lib hiding intOf
set_option maxRecDepth 100000 in
set_option maxHeartbeats 1000000 in
theorem yblock_step (w0 : World) (hV : YVar w0) (n : Nat) (IH : YBh w0 n) : YBl w0 (n + 1) := by
  intro b t kv iv w l ind hvd hev h hb0 hl hi
  have hmf : ∀ (fn : Fn) (first cap : Array Value) (w : World), (Instr.makeFunc fn first cap).run Tryz.prog w = .ok (.func fn first cap) w := fun _ _ _ _ => rfl
  obtain ⟨m', hm, ⟨pk, ck, rfl, hck, hlies⟩, p, c, rfl, hlc, hit⟩ := hvd.parts
  obtain rfl : n = m' := by omega
  have hBw : w0.heap.size ≤ w.heap.size := hb0.size
  obtain ⟨X, hX⟩ : ∃ X, w.heap.size = X := ⟨_, rfl⟩
  obtain ⟨W1, hW1⟩ : ∃ W, w.alloc (.cells #[.int .i64 t.kind, .string (bs t.text), .slice pk t.keys.length ck, .slice p t.items.length c] 25) = W := ⟨_, rfl⟩
  have HB1 : Hid (Below w.heap.size w W1) := Lib.hid (by rw [← hW1]; exact below_alloc1 _ _)
  have HXB : Hid (VBox W1 X t (.slice pk t.keys.length ck) (.slice p t.items.length c)) := Lib.hid (by rw [← hW1, ← hX]; exact VBox.new w t _ _)
  have HB01 := Lib.hid (hb0.trans (HB1.out.mono hBw))
  have hXb : X ≠ b := by rw [← hX]; exact Nat.ne_of_gt h.lt
  have hBX : w0.heap.size ≤ X := by omega
  have HKW : Hid (Kp w0.heap.size b w W1) := Lib.hid (Kp.of_below HB1.out hBw)
  have H1 := Lib.hid (h.keep HB1.out)
  obtain ⟨hrn, hel⟩ := rnode_of hev
  have hbs : t.text.length + bulks t.items + totS t.keys + t.keys.length < t.bulk := by cases t; rw [VT.bulk]; simp only [VT.items, VT.keys, VT.text]; omega
  have hlen := len_le_bulks t.items
  have HIT := Lib.hid hit
  have HEL := Lib.hid hel
  have HKS := Lib.hid hlies
  have HRN := Lib.hid hrn
  unfold blockL
  unfold vv
  clear hit hvd hev h hlies hrn hel hb0 hm
  by_cases k6 : t.kind = 6
  · rw [if_pos k6]
    have d6 : (t.kind == 6) = true := by rw [k6]; rfl
    have HKL := Lib.hid (rnode_keys HRN.out k6)
    clear k6
    go_enter Tryz.func54, Tryz.ntmps54
    go_upto_region 1 with fail
    clear hW1
    obtain ⟨b0, b1, b2, b3⟩ := HXB.out.cells
    go_wp2_with fail
    clear b0 b1 b2 b3
    go_loopw [7, 18] (fun s7 s18 wr => ∃ i : Nat, s18 = .int .i64 (i : Int) ∧ i ≤ t.items.length ∧ Hid (YN w0.heap.size b (l ++ ymemL (t.items.take i) t.keys ind) wr) ∧ Hid ((ymemL (t.items.take i) t.keys ind).length ≤ 2100 * bulks (t.items.take i) + 336 * totS (t.keys.take i)) ∧ Hid (Kp w0.heap.size b W1 wr)) (fun _ s18 _ => t.items.length - (RowKit.intOf s18).toNat)
    case atStart => exact ⟨0, rfl, Nat.zero_le _, Lib.hid (by simpa [ymemL] using H1.out), Lib.hid (by simp [ymemL]), Lib.hid (Kp.refl _ _ _)⟩
    case round =>
      obtain ⟨i, rfl, hi', HP, HL, HKr⟩ := hrel
      by_cases hil : i < t.items.length
      · obtain ⟨x, hx⟩ : ∃ x, t.items[i]? = some x := ⟨_, List.getElem?_eq_getElem hil⟩
        have hi1 : (i : Int) < (t.items.length : Int) := by omega
        have dk : decide ((i : Int) < (t.items.length : Int)) = true := decide_eq_true hi1
        have hxm := List.mem_of_getElem? hx
        have hxb := bulk_mem hxm
        have hxe : everyB rnodeB x = true := by
          have h1 := HEL.out
          rw [everyL_eq, List.all_eq_true] at h1
          exact h1 x hxm
        have hxd : x.depth ≤ n := by
          obtain ⟨g, o, kv', iv', _, _, _, _, _, _, hvd⟩ := HIT.out i x hx
          exact hvd.deep
        have HBr := Lib.hid (HB01.out.trans HKr.out.1)
        have hlb := HL.out
        have htk := bulks_take hx
        obtain ⟨k, hk⟩ : ∃ k, t.keys[i]? = some k := ⟨_, List.getElem?_eq_getElem (by have := HKL.out; omega)⟩
        have htt : totS (t.keys.take i) + k.length ≤ totS t.keys := totS_take hk
        have hkm := totS_mem (List.mem_of_getElem? hk)
        have HX := Lib.hid hx
        obtain ⟨A, hA⟩ : ∃ A, l ++ ymemL (t.items.take i) t.keys ind = A := ⟨_, rfl⟩
        have hAl : A.length = l.length + (ymemL (t.items.take i) t.keys ind).length := by rw [← hA, List.length_append]
        rw [hA] at HP
        have HE := Lib.hid (ymember_any w0 hV n IH b t pk ck p c i x k wr A ind HKS.out hk (by omega) (by omega) HIT.out hx hxe HP.out HBr.out (by omega) (by omega) (by omega))
        unfold vv at HE
        have hnew : l ++ ymemL (t.items.take (i + 1)) t.keys ind = A ++ (List.replicate ind 32 ++ ((keyY k).1 ++ [58]) ++ ybehL x ind) := by
          rw [take_one hx, ymemL_app _ _ _ _ k (by rw [List.length_take, Nat.min_eq_left (by omega)]; exact hk), ← List.append_assoc, hA]
        have hnl : (ymemL (t.items.take (i + 1)) t.keys ind).length ≤ 2100 * bulks (t.items.take (i + 1)) + 336 * totS (t.keys.take (i + 1)) := by
          have h1 := HL.out
          have h2 := ybeh_len x ind (by omega)
          have h3 := size_pos x
          have h4 := size_le_bulk x
          have h6 : bulks (t.items.take (i + 1)) = bulks (t.items.take i) + x.bulk := by rw [take_one hx, bulks_app, bulks, bulks]; omega
          rw [h6, take_one hx, ymemL_app _ _ _ _ k (by rw [List.length_take, Nat.min_eq_left (by omega)]; exact hk), List.length_append]
          have h5 := keyY_len k
          have h7 : totS (t.keys.take (i + 1)) = totS (t.keys.take i) + k.length := by rw [take_one hk, totS_app]; simp [totS]
          rw [h7]
          simp only [List.length_append, List.length_replicate, List.length_cons, List.length_nil]
          omega
        have HN := Lib.hid hnew
        have HNL := Lib.hid hnl
        clear hx hxe hxm hA hnew hnl
        obtain ⟨b0, b1, b2, b3⟩ := (HXB.out.kp HKr.out hXb).cells
        go_wp2_with fail
        refine HE.out.mono ?_
        rintro e w5 ⟨rfl, h2, h3⟩
        have H5 := Lib.hid h2
        have HK5 : Hid (Kp w0.heap.size b W1 w5) := Lib.hid (HKr.out.trans h3)
        clear h2 h3 b0 b1 b2 b3 HE
        go_wp2_with fail
        go_roundw
        case rel => exact ⟨i + 1, by go_num, hil, Lib.hid (by rw [HN.out]; exact H5.out), HNL, HK5⟩
        case measure => simp only [RowKit.intOf]; omega
      · have dk : decide ((i : Int) < (t.items.length : Int)) = false := decide_eq_false (by omega)
        obtain rfl : i = t.items.length := by omega
        rw [List.take_length] at HP
        go_wp2_with fail
        go_end0
        exact ⟨rfl, HP.out, HKW.out.trans HKr.out⟩
  · rw [if_neg k6]
    have d6 : (t.kind == 6) = false := beq_eq_false_iff_ne.2 k6
    clear k6
    go_enter Tryz.func54, Tryz.ntmps54
    go_upto_region 1 with fail
    clear hW1
    obtain ⟨b0, b1, b2, b3⟩ := HXB.out.cells
    go_wp2_with fail
    clear b0 b1 b2 b3
    go_loopw [7, 18] (fun s7 s18 wr => ∃ i : Nat, s18 = .int .i64 (i : Int) ∧ i ≤ t.items.length ∧ Hid (YN w0.heap.size b (l ++ yitemL (t.items.take i) ind) wr) ∧ Hid ((yitemL (t.items.take i) ind).length ≤ 2100 * bulks (t.items.take i)) ∧ Hid (Kp w0.heap.size b W1 wr)) (fun _ s18 _ => t.items.length - (RowKit.intOf s18).toNat)
    case atStart => exact ⟨0, rfl, Nat.zero_le _, Lib.hid (by simpa [yitemL] using H1.out), Lib.hid (by simp [yitemL]), Lib.hid (Kp.refl _ _ _)⟩
    case round =>
      obtain ⟨i, rfl, hi', HP, HL, HKr⟩ := hrel
      by_cases hil : i < t.items.length
      · obtain ⟨x, hx⟩ : ∃ x, t.items[i]? = some x := ⟨_, List.getElem?_eq_getElem hil⟩
        have hi1 : (i : Int) < (t.items.length : Int) := by omega
        have dk : decide ((i : Int) < (t.items.length : Int)) = true := decide_eq_true hi1
        have hxm := List.mem_of_getElem? hx
        have hxb := bulk_mem hxm
        have hxe : everyB rnodeB x = true := by
          have h1 := HEL.out
          rw [everyL_eq, List.all_eq_true] at h1
          exact h1 x hxm
        have hxd : x.depth ≤ n := by
          obtain ⟨g, o, kv', iv', _, _, _, _, _, _, hvd⟩ := HIT.out i x hx
          exact hvd.deep
        have HBr := Lib.hid (HB01.out.trans HKr.out.1)
        have hlb := HL.out
        have htk := bulks_take hx
        have HX := Lib.hid hx
        obtain ⟨A, hA⟩ : ∃ A, l ++ yitemL (t.items.take i) ind = A := ⟨_, rfl⟩
        have hAl : A.length = l.length + (yitemL (t.items.take i) ind).length := by rw [← hA, List.length_append]
        rw [hA] at HP
        have HE := Lib.hid (yitem_any w0 n IH b t pk ck p c i x wr A ind HIT.out hx hxe HP.out HBr.out (by omega) (by omega) (by omega))
        unfold vv at HE
        have hnew : l ++ yitemL (t.items.take (i + 1)) ind = A ++ (List.replicate ind 32 ++ [45] ++ ybehL x ind) := by
          rw [take_one hx, yitemL_app, ← List.append_assoc, hA]
        have hnl : (yitemL (t.items.take (i + 1)) ind).length ≤ 2100 * bulks (t.items.take (i + 1)) := by
          have h1 := HL.out
          have h2 := ybeh_len x ind (by omega)
          have h3 := size_pos x
          have h4 := size_le_bulk x
          have h6 : bulks (t.items.take (i + 1)) = bulks (t.items.take i) + x.bulk := by rw [take_one hx, bulks_app, bulks, bulks]; omega
          rw [h6, take_one hx, yitemL_app, List.length_append]
          simp only [List.length_append, List.length_replicate, List.length_cons, List.length_nil]
          omega
        have HN := Lib.hid hnew
        have HNL := Lib.hid hnl
        clear hx hxe hxm hA hnew hnl
        obtain ⟨b0, b1, b2, b3⟩ := (HXB.out.kp HKr.out hXb).cells
        go_wp2_with fail
        refine HE.out.mono ?_
        rintro e w5 ⟨rfl, h2, h3⟩
        have H5 := Lib.hid h2
        have HK5 : Hid (Kp w0.heap.size b W1 w5) := Lib.hid (HKr.out.trans h3)
        clear h2 h3 b0 b1 b2 b3 HE
        go_wp2_with fail
        go_roundw
        case rel => exact ⟨i + 1, by go_num, hil, Lib.hid (by rw [HN.out]; exact H5.out), HNL, HK5⟩
        case measure => simp only [RowKit.intOf]; omega
      · have dk : decide ((i : Int) < (t.items.length : Int)) = false := decide_eq_false (by omega)
        obtain rfl : i = t.items.length := by omega
        rw [List.take_length] at HP
        go_wp2_with fail
        go_end0
        exact ⟨rfl, HP.out, HKW.out.trans HKr.out⟩
theorem yblock_any (w0 : World) (hV : YVar w0) : ∀ n, YBl w0 n
  | 0 => fun b t kv iv w l ind h => h.elim
  | n + 1 => yblock_step w0 hV n (ybehind_of w0 hV n (yblock_any w0 hV n))
theorem ybehind_any (w0 : World) (hV : YVar w0) (n : Nat) : YBh w0 n := ybehind_of w0 hV n (yblock_any w0 hV n)
end Go.Proofs.YtnnlpkbopeiefaaGreatDoor
