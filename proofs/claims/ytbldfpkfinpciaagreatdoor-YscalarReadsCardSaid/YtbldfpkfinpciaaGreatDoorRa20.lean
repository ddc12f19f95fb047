import Derived.Test.YtbldfpkfinpciaaGreatDoorRa19
namespace Go.Proofs.YtbldfpkfinpciaaGreatDoor
set_option linter.unusedSimpArgs false
set_option linter.unusedVariables false
open Go.RowKit
open Go.Lib hiding intOf
set_option maxRecDepth 100000 in
set_option maxHeartbeats 2000000 in
theorem rread9_of (s : Stp) (w : World) (hs : s.length ≤ 1073741824) (hCP : ∀ w', Calls Tryz.prog 113 #[.string (bs s)] w' (ParseR s (parseJ s) w')) :
  Calls Tryz.prog 63 #[.string (bs s)] w (NewE3 (readJ s).1 (readJ s).2.1 (readJ s).2.2 w) := by
 obtain ⟨R, hR⟩ : ∃ R, w.heap.size = R := ⟨_, rfl⟩
 obtain ⟨W1, hW1⟩ : ∃ W, w.alloc (.cells #[.int .i64 0, .string ⟨#[]⟩, .slice none 0 0, .slice none 0 0] 36) = W := ⟨_, rfl⟩
 have HB1 : Hid (Below w.heap.size w W1) := Lib.hid (by rw [← hW1]; exact below_alloc1 _ _)
 have HR1 : Hid (W1.heap[R]? = some (.cells #[.int .i64 0, .string (bs []), .slice none 0 0, .slice none 0 0] 36)) := Lib.hid (by rw [← hW1, ← hR]; exact heap_alloc_new w _)
 have HRl := Lib.hid (cell_it HR1.out)
 have CP := Lib.hid (hCP W1)
 have hbig : (parseJ s).2.2 = 0 → (parseJ s).1.length ≤ 65536 := fun _ => parse_few s
 unfold readJ
 obtain ⟨⟨ns, at_, er⟩, hP⟩ : ∃ P, parseJ s = P := ⟨_, rfl⟩
 rw [hP] at CP hbig
 rw [hP]
 simp only [] at hbig ⊢
 have HP := Lib.hid hP
 unfold ParseR at CP
 simp only [] at CP
 clear hCP hP
 by_cases he : er = 0
 ·subst he
  rw [if_neg (by simp)]
  simp only []
  have HT := Lib.hid (parse_tree HP.out)
  have hdt : docT s ns = s := by
   have := HT.out.lt
   cases ns with
   | nil => simp at this
   | cons _ _ => rfl
  rw [hdt] at CP
  have hN := hbig rfl
  have HN := Lib.hid hN
  clear hbig hdt hN
  go_enter Tryz.func63, Tryz.ntmps63
  go_upto_region 1 with fail
  clear hW1
  go_wp2_with fail
  refine CP.out.mono ?_
  rintro e w1 ⟨p, c, rfl, hn1, hb1⟩
  have hb2 := below_alloc1 w1 (.cells #[.string (bs s), .slice p ns.length c] 132)
  have hb3 := below_of_new hb1 hb2
  have HB3 := Lib.hid hb3
  have HND := Lib.hid (rnode_any s ns p c HN.out hs 32 0 ns.length _ HT.out (hn1.keep hb2))
  clear hn1 hb1 hb2 hb3 CP
  go_wp2_with fail
  refine HND.out.mono ?_
  rintro e w4 ⟨⟨kv, iv, rfl, hv4⟩, hb4⟩
  obtain ⟨pk, ck, px, cx, rfl, rfl⟩ := hv4.form
  have HB4 := Lib.hid (below_of_new HB3.out hb4)
  have HV4 := Lib.hid (hv4.mono (ok' := fun q => W1.heap.size ≤ q) (fun q hq _ => Nat.le_trans HB3.out.size hq))
  have HPN := Lib.hid (putNew HB1.out (by rw [hR]; exact Nat.le_refl _) HRl.out HV4.out HB4.out HR1.out)
  obtain ⟨r0, r1, r2, r3, f0, f1, f2, f3⟩ := box4 ((HB4.out.block R HRl.out).trans HR1.out)
  unfold vv
  clear hv4 hb4 HND
  go_wp2_with fail
  obtain ⟨WF, hWF⟩ : ∃ W, putV w4 R (nodeV s ns 32 0).kind (nodeV s ns 32 0).text (.slice pk (nodeV s ns 32 0).keys.length ck) (.slice px (nodeV s ns 32 0).items.length cx) = W := ⟨_, rfl⟩
  rw [hWF] at HPN
  have hWF' : (((w4.setCell ⟨R, 0, none⟩ (.int .i64 (nodeV s ns 32 0).kind)).setCell ⟨R, 1, none⟩ (.string (bs (nodeV s ns 32 0).text))).setCell ⟨R, 2, none⟩ (.slice pk (nodeV s ns 32 0).keys.length ck)).setCell ⟨R, 3, none⟩ (.slice px (nodeV s ns 32 0).items.length cx) = WF := hWF
  rw [hWF']
  clear hWF hWF' r0 r1 r2 r3 f0 f1 f2 f3
  obtain ⟨d0, d1, d2, d3, _⟩ := box4 HPN.out.2.2
  refine bodyPost_ret (v := .tuple #[vv (nodeV s ns 32 0) (.slice pk (nodeV s ns 32 0).keys.length ck) (.slice px (nodeV s ns 32 0).items.length cx), .int .i64 at_, .int .i64 0]) ?_ rfl ⟨⟨_, _, rfl, HPN.out.1⟩, HPN.out.2.1⟩
  simp [results, Tryz.results63, go_sem, d0, d1, d2, d3, vv]
 ·rw [if_pos he]
  simp only []
  have de : (er != 0) = true := by simp [he]
  clear hbig HP
  go_enter Tryz.func63, Tryz.ntmps63
  go_upto_region 1 with fail
  clear hW1
  go_wp2_with fail
  refine CP.out.mono ?_
  rintro e w1 ⟨p, c, rfl, hn1, hb1⟩
  have HB1' := Lib.hid hb1
  obtain ⟨w4, hw4⟩ : ∃ w4, w1.alloc (.cells #[.string (bs (docT s ns)), .slice p ns.length c] 132) = w4 := ⟨_, rfl⟩
  have HB4 : Hid (Below W1.heap.size W1 w4) := Lib.hid (below_of_new hb1 (by rw [← hw4]; exact below_alloc1 _ _))
  have HPN := Lib.hid (putNew (t := zeroT) HB1.out (by rw [hR]; exact Nat.le_refl _) HRl.out (leafV _ _ _ _) HB4.out HR1.out)
  obtain ⟨r0, r1, r2, r3, f0, f1, f2, f3⟩ := box4 ((HB4.out.block R HRl.out).trans HR1.out)
  clear hn1 hb1 CP
  go_wp2_with fail
  obtain ⟨WF, hWF⟩ : ∃ W, putV w4 R zeroT.kind zeroT.text (.slice none 0 0) (.slice none 0 0) = W := ⟨_, rfl⟩
  rw [hWF] at HPN
  have hWF' : (((w4.setCell ⟨R, 0, none⟩ (.int .i64 0)).setCell ⟨R, 1, none⟩ (.string ⟨#[]⟩)).setCell ⟨R, 2, none⟩ (.slice none 0 0)).setCell ⟨R, 3, none⟩ (.slice none 0 0) = WF := hWF
  rw [hWF']
  clear hWF hWF' r0 r1 r2 r3 f0 f1 f2 f3
  obtain ⟨d0, d1, d2, d3, _⟩ := box4 HPN.out.2.2
  refine bodyPost_ret (v := .tuple #[vv zeroT (.slice none 0 0) (.slice none 0 0), .int .i64 at_, .int .i64 er]) ?_ rfl ⟨⟨_, _, rfl, HPN.out.1⟩, HPN.out.2.1⟩
  simp [results, Tryz.results63, go_sem, d0, d1, d2, d3, vv]
end Go.Proofs.YtbldfpkfinpciaaGreatDoor
namespace Go.Proofs.YtbldfpkfinpciaaGreatDoor
set_option linter.unusedSimpArgs false
set_option linter.unusedVariables false
open Go.Lib hiding intOf
theorem drop_headT (p : UInt8 → Bool) : ∀ l : Stp, ∀ c, (l.dropWhile p).head? = some c → p c = false
 | [], c, h => by simp at h
 | x :: l, c, h => by
  rw [List.dropWhile_cons] at h
  split at h
  ·exact drop_headT p l c h
  ·rename_i hx
   simp at h
   subst h
   simpa using hx
def lowB (c : UInt8) : Bool := decide (c.toNat < 32) || decide (c.toNat = 127)
theorem cleanGo_eq : ∀ (n f : Nat) (s : Stp), s.length ≤ n → s.length ≤ f → Lib.validD s = true → cleanGo f s = !s.any lowB
 | 0, f, s, hn, _, _ => by
  cases s with
  | nil => cases f <;> rfl
  | cons c r => simp at hn
 | n + 1, f, s, hn, hf, hv => by
  by_cases hne : s = []
  ·subst hne; cases f <;> rfl
  obtain ⟨r, t, hr, rfl, ht, hd⟩ := valid_cut s hne hv
  obtain ⟨E, hE⟩ : ∃ E, encodeRune r = E := ⟨_, rfl⟩
  have hEne := encode_ne r
  rw [hE] at hEne
  cases E with
  | nil => exact absurd rfl hEne
  | cons e E' =>
   rw [hE] at hd hn hf ⊢
   obtain ⟨g, rfl⟩ : ∃ g, f = g + 1 := ⟨f - 1, by simp at hf; omega⟩
   rw [List.cons_append, cleanGo]
   rw [List.cons_append] at hd
   rw [hd]
   have e1 : (e :: (E' ++ t)).drop (e :: E').length = t := by rw [show e :: (E' ++ t) = (e :: E') ++ t from rfl, List.drop_left]
   rw [e1, cleanGo_eq n g t (by simp at hn; omega) (by simp at hf; omega) ht]
   rw [show e :: (E' ++ t) = (e :: E') ++ t from rfl, List.any_append]
   have hr0 := hr.1
   have key : (e :: E').any lowB = (decide (r.toNat < 32) || (r.toNat == 127)) := by
    by_cases h128 : r < 128
    ·obtain ⟨d, hd2⟩ : ∃ d : UInt8, r = (d.toNat : Int) := ⟨UInt8.ofNat r.toNat, by rw [UInt8.toNat_ofNat']; omega⟩
     subst hd2
     rw [← hE, encode_one d (by omega), List.any_cons, List.any_nil, Bool.or_false, Int.toNat_natCast]
     unfold lowB
     congr 1
    ·have h1 : (decide (r.toNat < 32) || (r.toNat == 127)) = false := by
      rw [Bool.or_eq_false_iff]
      exact ⟨decide_eq_false (by omega), beq_eq_false_iff_ne.2 (by omega)⟩
     rw [h1, List.any_eq_false]
     intro c hc
     rw [← hE] at hc
     have := encode_high r hr (by omega) c hc
     unfold lowB
     simp only [Bool.or_eq_true, decide_eq_true_eq]
     omega
   rw [key]
   cases (decide (r.toNat < 32) || (r.toNat == 127)) <;> simp
theorem clean_eq (s : Stp) : cleanB s = (Lib.validD s && !s.any lowB) := by
 unfold cleanB
 cases hv : Lib.validD s with
 | false => simp
 | true => rw [cleanGo_eq s.length s.length s (Nat.le_refl _) (Nat.le_refl _) hv]; simp
def pairsB : Stp → Bool
 | a :: b :: r => !((a == 58 && b == 32) || (a == 32 && b == 35)) && pairsB (b :: r)
 | _ => true
theorem contains_cons (b : UInt8) (l sub : Stp) : Lib.contains (b :: l) sub = (sub.isPrefixOf (b :: l) || Lib.contains l sub) := by
 unfold Lib.contains
 rw [Lib.index]
 have hg := Lib.index_ge l sub
 split
 ·rename_i h; rw [h]; simp
 ·rename_i h
  rw [Bool.not_eq_true] at h
  rw [h, Bool.false_or]
  split
  ·rename_i h2
   rw [beq_iff_eq] at h2
   rw [h2]
  ·rename_i h2
   simp only [beq_iff_eq] at h2
   rw [decide_eq_decide]
   omega
theorem pairs_eq : ∀ s : Stp, (!Lib.contains s [58, 32] && !Lib.contains s [32, 35]) = pairsB s
 | [] => by rfl
 | [a] => by
  rw [contains_cons, contains_cons]
  have e1 : Lib.contains [] [58, 32] = false := by decide
  have e2 : Lib.contains [] [32, 35] = false := by decide
  rw [e1, e2]
  simp [List.isPrefixOf, pairsB]
 | a :: b :: r => by
  rw [contains_cons, contains_cons a, pairsB, ← pairs_eq (b :: r)]
  simp only [List.isPrefixOf, Bool.and_true]
  have e1 : ((58 : UInt8) == a) = (a == 58) := BEq.comm
  have e2 : ((32 : UInt8) == b) = (b == 32) := BEq.comm
  have e3 : ((32 : UInt8) == a) = (a == 32) := BEq.comm
  have e4 : ((35 : UInt8) == b) = (b == 35) := BEq.comm
  rw [e1, e2, e3, e4]
  cases (a == 58 && b == 32) <;> cases (a == 32 && b == 35) <;> cases Lib.contains (b :: r) [58, 32] <;> cases Lib.contains (b :: r) [32, 35] <;> rfl
theorem drop_len (p : UInt8 → Bool) : ∀ l : Stp, (l.dropWhile p).length ≤ l.length
 | [] => Nat.le_refl _
 | x :: l => by
  rw [List.dropWhile_cons]
  split
  ·have := drop_len p l; simp only [List.length_cons]; omega
  ·exact Nat.le_refl _
theorem drop_whole (p : UInt8 → Bool) (l : Stp) (h : l.length ≤ (l.dropWhile p).length) : l.dropWhile p = l := by
 cases l with
 | nil => rfl
 | cons x l =>
  rw [List.dropWhile_cons] at h ⊢
  split
  ·rename_i hp
   rw [if_pos hp] at h
   have := drop_len p l
   simp only [List.length_cons] at h
   omega
  ·rfl
theorem trim_eq (s : Stp) : decide (Lib.trimB s 32 = s) = (decide (s.head? ≠ some 32) && decide (s.getLast? ≠ some 32)) := by
 rw [← Bool.decide_and, decide_eq_decide]
 unfold Lib.trimB Lib.trimLeftB Lib.trimRightB
 constructor
 ·intro h
  have hl := congrArg List.length h
  have h1 := drop_len (· == 32) ((s.reverse.dropWhile (· == 32)).reverse)
  have h2 := drop_len (· == 32) s.reverse
  rw [List.length_reverse] at h1 h2
  have e1 := drop_whole (· == 32) s.reverse (by rw [List.length_reverse]; omega)
  rw [e1, List.reverse_reverse] at h
  refine ⟨fun e => ?_, fun e => ?_⟩
  ·have := drop_headT (· == 32) s 32 (by rw [h]; exact e)
   simp at this
  ·have := drop_headT (· == 32) s.reverse 32 (by rw [e1, List.head?_reverse]; exact e)
   simp at this
 ·rintro ⟨h1, h2⟩
  have no : ∀ l : Stp, l.head? ≠ some 32 → l.dropWhile (· == 32) = l := by
   intro l hl
   cases l with
   | nil => rfl
   | cons x l =>
    rw [List.dropWhile_cons, if_neg]
    intro e
    rw [beq_iff_eq] at e
    exact hl (by rw [e]; rfl)
  rw [no s.reverse (by rw [List.head?_reverse]; exact h2), List.reverse_reverse, no s h1]
def bareR (s : Stp) : Bool := match s with
 | [] => false
 | c :: r => cleanB (c :: r) && !(c == 32) && !((c :: r).getLast? == some 32) && !((c :: r).getLast? == some 58) && !signsL.contains c && !(c == 45 && (r.isEmpty || r.head? == some 32)) && pairsB (c :: r)
theorem bare_eq (s : Stp) : bareB s = bareR s := by
 cases s with
 | nil => rfl
 | cons c r =>
  unfold bareB bareR
  simp only []
  rw [trim_eq]
  have e1 : decide (0 ≤ Lib.indexByte signsL c) = signsL.contains c := (Lib.contains_iff_indexByte signsL c).symm
  have e2 : Lib.hasSuffix (c :: r) [58] = ((c :: r).getLast? == some 58) := by
   unfold Lib.hasSuffix List.isSuffixOf
   rw [List.reverse_singleton]
   have hh : (c :: r).reverse.head? = (c :: r).getLast? := List.head?_reverse
   cases hr : (c :: r).reverse with
   | nil => simp at hr
   | cons x l =>
    rw [hr] at hh
    rw [← hh]
    simp only [List.isPrefixOf, Bool.and_true, List.head?_cons]
    rw [show ((58 : UInt8) == x) = (x == 58) from BEq.comm]
    rfl
  have e3 : (!decide (c :: r = [45]) && !Lib.hasPrefix (c :: r) [45, 32]) = !(c == 45 && (r.isEmpty || r.head? == some 32)) := by
   unfold Lib.hasPrefix
   cases r with
   | nil =>
    simp only [List.isPrefixOf, Bool.and_false, List.isEmpty_nil, Bool.true_or, Bool.and_true, Bool.not_false]
    congr 1
    rw [Bool.eq_iff_iff]; simp
   | cons b r =>
    simp only [List.isPrefixOf, Bool.and_true, List.isEmpty_cons, Bool.false_or, List.head?_cons]
    have : decide (c :: b :: r = [45]) = false := decide_eq_false (by simp)
    rw [this]
    simp only [Bool.not_false, Bool.true_and]
    rw [show ((45 : UInt8) == c) = (c == 45) from BEq.comm, show ((32 : UInt8) == b) = (b == 32) from BEq.comm]
    rfl
  have e4 : (decide ((c :: r).head? ≠ some 32)) = !(c == 32) := by
   rw [Bool.eq_iff_iff]; simp
  have e5 : (decide ((c :: r).getLast? ≠ some 32)) = !((c :: r).getLast? == some 32) := by
   rw [Bool.eq_iff_iff]; simp
  rw [e1, e2, e4, e5, ← e3, ← pairs_eq]
  generalize cleanB (c :: r) = a1
  generalize (c == 32) = a2
  generalize ((c :: r).getLast? == some 32) = a3
  generalize signsL.contains c = a4
  generalize decide (c :: r = [45]) = a5
  generalize Lib.hasPrefix (c :: r) [45, 32] = a6
  generalize ((c :: r).getLast? == some 58) = a7
  generalize Lib.contains (c :: r) [58, 32] = a8
  generalize Lib.contains (c :: r) [32, 35] = a9
  cases a1 <;> cases a2 <;> cases a3 <;> cases a4 <;> cases a5 <;> cases a6 <;> cases a7 <;> cases a8 <;> cases a9 <;> rfl
end Go.Proofs.YtbldfpkfinpciaaGreatDoor
namespace Go.Proofs.YtbldfpkfinpciaaGreatDoor
set_option linter.unusedSimpArgs false
set_option linter.unusedVariables false
open Go.RowKit
open Go.Lib hiding intOf
theorem rvalid_any (l : Stp) (w : World) (hs : l.length ≤ 4611686018427387904) :
  ∃ N : Int, Calls Tryz.prog 122 #[.string (bs l)] w fun e w' => e = .returned (.tuple #[.int .i64 N, .bool (Lib.validD l)]) ∧ Below w.heap.size w w' := by
 refine ⟨(validRes (bs l)).1, (refValid_any (bs l) w (by rw [bs_size]; exact hs)).mono ?_⟩
 rintro e w' ⟨rfl, rfl⟩
 exact ⟨by rw [validRes_snd, bs_data], Below.refl _ _⟩
theorem drop_byte {l : Stp} {i : Nat} {b : UInt8} (h : l[i]? = some b) : l.drop i = b :: l.drop (i + 1) := by
 obtain ⟨h1, h2⟩ := List.getElem?_eq_some_iff.1 h
 rw [List.drop_eq_getElem_cons h1, h2]
theorem low_int (b : UInt8) (x : Int) (hx : (b.toNat : Int) = x) : lowB b = (decide (x < 32) || (x == 127)) := by
 unfold lowB
 subst hx
 congr 1
 ·rw [decide_eq_decide]; omega
 ·rw [Bool.eq_iff_iff, decide_eq_true_iff, beq_iff_eq]; omega
set_option maxRecDepth 100000 in
set_option maxHeartbeats 1000000 in
theorem rclean_any (l : Stp) (w : World) (hs : l.length ≤ 4611686018427387904) :
  Calls Tryz.prog 70 #[.string (bs l)] w fun e w' => e = .returned (.bool (cleanB l)) ∧ Below w.heap.size w w' := by
 have sl := bs_size l
 obtain ⟨N, hv⟩ := rvalid_any l w hs
 have HV := Lib.hid hv
 clear hv
 have hce := clean_eq l
 obtain ⟨V, hV⟩ : ∃ V, Lib.validD l = V := ⟨_, rfl⟩
 obtain ⟨Q, hQ⟩ : ∃ Q, cleanB l = Q := ⟨_, rfl⟩
 rw [hV] at HV hce
 rw [hQ] at hce ⊢
 have HQ : Hid ((V && !(l.drop 0).any lowB) = Q) := Lib.hid (by rw [List.drop_zero]; exact hce.symm)
 clear hV hQ hce
 go_enter Tryz.func70, Tryz.ntmps70
 go_wp2_with fail
 refine HV.out.mono ?_
 rintro e w2 ⟨rfl, hb2⟩
 have HB2 := Lib.hid hb2
 clear hb2 HV
 go_wp2_with fail
 go_loopw [5] (fun s5 wr => ∃ i : Nat, s5 = .int .i64 (i : Int) ∧ i ≤ l.length ∧ Hid ((V && !(l.drop i).any lowB) = Q) ∧ Hid (Below w.heap.size w wr)) (fun s5 _ => l.length - (RowKit.intOf s5).toNat)
 case atStart => exact ⟨0, rfl, Nat.zero_le _, HQ, HB2⟩
 case round =>
  obtain ⟨i, rfl, hi, HQi, HBr⟩ := hrel
  by_cases hlt : i < l.length
  ·have hlt' : i < (bs l).size := by omega
   have dk : decide ((i : Int) < (l.length : Int)) = true := decide_eq_true (by omega)
   have hiz : (i : Int) < (l.length : Int) := by omega
   have hbi := at_bs l i hlt'
   obtain ⟨b, hb⟩ : ∃ b, (bs l)[i]'hlt' = b := ⟨_, rfl⟩
   rw [hb] at hbi
   have hq := HQi.out
   rw [drop_byte hbi, List.any_cons] at hq
   obtain ⟨x, hx⟩ : ∃ x : Int, (b.toNat : Int) = x := ⟨_, rfl⟩
   have hge3 : (((bs l)[i]'hlt').toNat : Int) = x := by rw [hb, hx]
   rw [low_int b x hx] at hq
   have HX := Lib.hid hq
   clear hq hbi hb hx HQi
   by_cases h32 : x < 32
   ·have d32 : decide (x < 32) = true := decide_eq_true h32
    have hF : Q = false := by have := HX.out; rw [d32] at this; simpa using this.symm
    subst hF
    clear h32
    go_wp2_with fail
    go_ret
    exact ⟨rfl, HBr.out⟩
   ·have d32 : decide (x < 32) = false := decide_eq_false h32
    by_cases h127 : x = 127
    ·have d127 : (x == 127) = true := beq_iff_eq.2 h127
     have hF : Q = false := by have := HX.out; rw [d32, d127] at this; simpa using this.symm
     subst hF
     clear h32 HX
     subst h127
     go_wp2_with fail
     go_ret
     exact ⟨rfl, HBr.out⟩
    ·have d127 : (x == 127) = false := beq_eq_false_iff_ne.2 h127
     have HX2 : Hid ((V && !(l.drop (i + 1)).any lowB) = Q) := Lib.hid (by have := HX.out; rw [d32, d127] at this; simpa using this)
     clear h32 h127 HX
     go_wp2_with fail
     go_roundw
     case rel => exact ⟨i + 1, by go_num, by omega, HX2, by first | exact HBr | exact Lib.hid (below_drewN HBr.out _)⟩
     case measure => simp [RowKit.intOf]; omega
  ·have dk : decide ((i : Int) < (l.length : Int)) = false := decide_eq_false (by omega)
   obtain rfl : V = Q := by
    have := HQi.out
    rw [List.drop_of_length_le (by omega)] at this
    simpa using this
   go_wp2_with fail
   go_ret
   exact ⟨rfl, HBr.out⟩
theorem at_lit {m : Stp} {S : ByteArray} (h : bs m = S) (i : Nat) (hi : i < S.size) : m[i]? = some (S[i]'hi) := by
 subst h
 exact at_bs m i hi
theorem byte_int {b : UInt8} {x : Int} (hx : (b.toNat : Int) = x) (n : UInt8) : (b == n) = (x == (n.toNat : Int)) := by
 subst hx
 rw [Bool.eq_iff_iff, beq_iff_eq, beq_iff_eq]
 exact ⟨fun e => by rw [e], fun e => UInt8.toNat_inj.1 (by omega)⟩
set_option maxRecDepth 100000 in
set_option maxHeartbeats 1000000 in
theorem rbare_any (l : Stp) (w : World) (hs : l.length ≤ 4611686018427387904) :
  Calls Tryz.prog 32 #[.string (bs l)] w fun e w' => e = .returned (.bool (bareB l)) ∧ Below w.heap.size w w' := by
 rw [bare_eq]
 have sl := bs_size l
 have CC := Lib.hid (rclean_any l w hs)
 cases l with
 | nil =>
  have e1 : cleanB [] = true := rfl
  rw [e1] at CC
  clear e1
  go_enter Tryz.func32, Tryz.ntmps32
  go_wp2_with fail
  refine CC.out.mono ?_
  rintro e w2 ⟨rfl, hb2⟩
  have HB2 := Lib.hid hb2
  clear hb2 CC
  go_wp2_with fail
  go_ret
  exact ⟨rfl, HB2.out⟩
 | cons c r =>
 obtain ⟨l, hl⟩ : ∃ l, c :: r = l := ⟨_, rfl⟩
 obtain ⟨K, hK⟩ : ∃ K, l.length = K + 1 := ⟨r.length, by rw [← hl]; rfl⟩
 obtain ⟨Q, hQ⟩ : ∃ Q, bareR (c :: r) = Q := ⟨_, rfl⟩
 have hr1 : (r.isEmpty || r.head? == some 32) = (K == 0 || l[1]? == some 32) := by
  rw [← hl] at hK ⊢
  cases r with
  | nil => simp at hK; subst hK; rfl
  | cons b r => simp at hK; rw [← hK]; simp
 have hq := hQ
 unfold bareR at hq
 simp only [] at hq
 rw [hr1, hl] at hq
 have h0' : l[0]? = some c := by rw [← hl]; rfl
 have hlast : l.getLast? = l[K]? := by rw [List.getLast?_eq_getElem?, hK, Nat.add_sub_cancel]
 rw [hlast] at hq
 rw [hQ]
 rw [hl] at CC sl hs ⊢
 clear hQ hl hr1 hlast
 obtain ⟨A, hA⟩ : ∃ A, cleanB l = A := ⟨_, rfl⟩
 rw [hA] at hq CC
 clear hA
 have sz : ((bs l).size : Int) = (K : Int) + 1 := by omega
 have hz : ((K : Int) + 1 == 0) = false := beq_eq_false_iff_ne.2 (by omega)
 have hsb : (K : Int) + 1 - 1 = (K : Int) := by omega
 have hp0 : 0 < (bs l).size := by omega
 have hpK : K < (bs l).size := by omega
 have hge0 : (bs l)[0]'hp0 = c := by
  have := at_bs l 0 hp0
  rw [h0'] at this
  exact (Option.some.inj this).symm
 obtain ⟨z, hzz⟩ : ∃ z, (bs l)[K]'hpK = z := ⟨_, rfl⟩
 have hK? := at_bs l K hpK
 rw [hzz] at hK?
 rw [hK?] at hq
 obtain ⟨x, hx⟩ : ∃ x : Int, (c.toNat : Int) = x := ⟨_, rfl⟩
 obtain ⟨y, hy⟩ : ∃ y : Int, (z.toNat : Int) = y := ⟨_, rfl⟩
 have hgex : (((bs l)[0]'hp0).toNat : Int) = x := by rw [hge0, hx]
 have hgey : (((bs l)[K]'hpK).toNat : Int) = y := by rw [hzz, hy]
 have hs1 : (some z == some (32 : UInt8)) = (y == 32) := byte_int hy 32
 have hs2 : (some z == some (58 : UInt8)) = (y == 58) := byte_int hy 58
 rw [hs1, hs2, byte_int hx 32, byte_int hx 45] at hq
 have hq : (A && !(x == 32) && !(y == 32) && !(y == 58) && !signsL.contains c && !((x == 45) && ((K == 0) || (l[1]? == some 32))) && pairsB l) = Q := hq
 have HX := Lib.hid hx
 have HQ := Lib.hid hq
 have HK := Lib.hid hK
 clear hs1 hs2 hx hy hK? hzz hge0 hq h0'
 obtain ⟨S, hS⟩ : ∃ S, bs signsL = S := ⟨_, rfl⟩
 have HS := Lib.hid hS
 have hSs : S.size = 18 := by rw [← hS]; rfl
 clear hS
 cases A with
 | false =>
  obtain rfl : Q = false := by have := HQ.out; simpa using this.symm
  go_enter Tryz.func32, Tryz.ntmps32
  go_wp2_with fail
  refine CC.out.mono ?_
  rintro e w2 ⟨rfl, hb2⟩
  have HB2 := Lib.hid hb2
  clear hb2 CC
  go_wp2_with fail
  go_ret
  exact ⟨rfl, HB2.out⟩
 | true =>
 by_cases hb3 : x = 32 ∨ y = 32 ∨ y = 58
 ·obtain rfl : Q = false := by
   have := HQ.out
   rw [← this]
   rcases hb3 with h | h | h <;> subst h <;> simp
  go_enter Tryz.func32, Tryz.ntmps32
  go_wp2_with fail
  refine CC.out.mono ?_
  rintro e w2 ⟨rfl, hb2⟩
  have HB2 := Lib.hid hb2
  clear hb2 CC
  by_cases h1 : x = 32
  ·have d1 : (x == 32) = true := beq_iff_eq.2 h1
   clear h1 hb3
   go_wp2_with fail
   go_ret
   exact ⟨rfl, HB2.out⟩
  ·have d1 : (x == 32) = false := beq_eq_false_iff_ne.2 h1
   by_cases h2 : y = 32
   ·have d2 : (y == 32) = true := beq_iff_eq.2 h2
    clear h1 h2 hb3
    go_wp2_with fail
    go_ret
    exact ⟨rfl, HB2.out⟩
   ·have d2 : (y == 32) = false := beq_eq_false_iff_ne.2 h2
    have d3 : (y == 58) = true := beq_iff_eq.2 (by omega)
    clear h1 h2 hb3
    go_wp2_with fail
    go_ret
    exact ⟨rfl, HB2.out⟩
 have d1 : (x == 32) = false := beq_eq_false_iff_ne.2 (by omega)
 have d2 : (y == 32) = false := beq_eq_false_iff_ne.2 (by omega)
 have d3 : (y == 58) = false := beq_eq_false_iff_ne.2 (by omega)
 clear hb3
 have HQ2 : Hid ((!(signsL.drop 0).contains c && (!((x == 45) && ((K == 0) || (l[1]? == some 32))) && pairsB l)) = Q) := Lib.hid (by
  have := HQ.out
  rw [d1, d2, d3] at this
  rw [List.drop_zero, ← this]
  simp [Bool.and_assoc])
 clear HQ
 go_enter Tryz.func32, Tryz.ntmps32
 go_wp2_with fail
 refine CC.out.mono ?_
 rintro e w2 ⟨rfl, hb2⟩
 have HB2 := Lib.hid hb2
 clear hb2 CC
 go_upto_region 5 with fail
 go_cut [5] (fun s5 wx => s5 = .string S ∧ Hid (Below w.heap.size w wx))
 case first =>
  go_wp2_with fail
  go_meet
  exact ⟨by rw [← HS.out]; rfl, HB2⟩
 case rest =>
 obtain ⟨rfl, HB3⟩ := hcut
 clear d1 d2 d3
 go_wp2_with fail
 go_loopw [6] (fun s6 wr => ∃ i : Nat, s6 = .int .i64 (i : Int) ∧ i ≤ 18 ∧ Hid ((!(signsL.drop i).contains c && (!((x == 45) && ((K == 0) || (l[1]? == some 32))) && pairsB l)) = Q) ∧ Hid (Below w.heap.size w wr)) (fun s6 _ => 18 - (RowKit.intOf s6).toNat)
 case atStart => exact ⟨0, rfl, Nat.zero_le _, HQ2, HB3⟩
 case round =>
  obtain ⟨i, rfl, hi, HQi, HBr⟩ := hrel
  by_cases hlt : i < 18
  ·have hlt' : i < S.size := by omega
   have dk : decide ((i : Int) < 18) = true := decide_eq_true (by omega)
   have hiz : (i : Int) < 18 := by omega
   have hbi := at_lit HS.out i hlt'
   obtain ⟨b, hb⟩ : ∃ b, S[i]'hlt' = b := ⟨_, rfl⟩
   rw [hb] at hbi
   have hq := HQi.out
   rw [drop_byte hbi, List.contains_cons] at hq
   obtain ⟨v, hv⟩ : ∃ v : Int, (b.toNat : Int) = v := ⟨_, rfl⟩
   have hgev : ((S[i]'hlt').toNat : Int) = v := by rw [hb, hv]
   have hcb : (c == b) = (x == v) := by rw [byte_int HX.out b, hv]
   rw [hcb] at hq
   have HQn := Lib.hid hq
   clear hq hbi hb hv HQi hcb
   by_cases hxv : x = v
   ·have dx : (x == v) = true := beq_iff_eq.2 hxv
    obtain rfl : Q = false := by have := HQn.out; rw [dx] at this; simpa using this.symm
    clear hxv HQn
    go_upto_region 9 with fail
    go_region
    all_goals
     go_wp2_with fail
     go_ret
     exact ⟨rfl, by first | exact HBr.out | exact below_drewN HBr.out _⟩
   ·have dx : (x == v) = false := beq_eq_false_iff_ne.2 hxv
    have HQm : Hid ((!(signsL.drop (i + 1)).contains c && (!((x == 45) && ((K == 0) || (l[1]? == some 32))) && pairsB l)) = Q) := Lib.hid (by have := HQn.out; rw [dx] at this; simpa using this)
    clear hxv HQn
    go_upto_region 9 with fail
    go_region
    all_goals
     go_wp2_with fail
     go_roundw
     case rel => exact ⟨i + 1, by go_num, by omega, HQm, by first | exact HBr | exact Lib.hid (below_drewN HBr.out _)⟩
     case measure => simp [RowKit.intOf]; omega
  ·have dk : decide ((i : Int) < 18) = false := decide_eq_false (by omega)
   have HQ3 : Hid ((!((x == 45) && ((K == 0) || (l[1]? == some 32))) && pairsB l) = Q) := Lib.hid (by
    have := HQi.out
    rw [List.drop_of_length_le (by show 18 ≤ i; omega)] at this
    simpa using this)
   clear HQi
   have key : Hid ((x = 45 ∧ (K = 0 ∨ l[1]? = some 32) ∧ Q = false) ∨ (¬ (x = 45 ∧ (K = 0 ∨ l[1]? = some 32)) ∧ pairsB (l.drop 0) = Q)) := Lib.hid (by
    have h := HQ3.out
    rw [List.drop_zero]
    by_cases hc : x = 45 ∧ (K = 0 ∨ l[1]? = some 32)
    ·left
     refine ⟨hc.1, hc.2, ?_⟩
     rw [← h]
     have : ((x == 45) && ((K == 0) || (l[1]? == some 32))) = true := by
      simp only [Bool.and_eq_true, Bool.or_eq_true, beq_iff_eq]
      exact hc
     rw [this]; rfl
    ·right
     refine ⟨hc, ?_⟩
     rw [← h]
     have : ((x == 45) && ((K == 0) || (l[1]? == some 32))) = false := by
      rw [← Bool.not_eq_true]
      simp only [Bool.and_eq_true, Bool.or_eq_true, beq_iff_eq]
      exact hc
     rw [this]; rfl)
   clear HQ3
   go_upto_region 11 with fail
   go_cut [60] (fun s60 wx => ∃ q : Bool, s60 = .bool q ∧ Hid (q = true → Q = false) ∧ Hid (q = false → pairsB (l.drop 0) = Q) ∧ Hid (Below w.heap.size w wx))
   case first =>
    by_cases h45 : x = 45
    ·have d45 : (x == 45) = true := beq_iff_eq.2 h45
     by_cases hK0 : K = 0
     ·have dK : ((K : Int) + 1 == 1) = true := beq_iff_eq.2 (by omega)
      have hQf : Hid (Q = false) := Lib.hid (by
       rcases key.out with h | h
       ·exact h.2.2
       ·exact absurd ⟨h45, .inl hK0⟩ h.1)
      clear h45 hK0
      go_wp2_with fail
      go_meet
      exact ⟨true, rfl, Lib.hid (fun _ => hQf.out), Lib.hid (fun h => by cases h), HBr⟩
     ·have dK : ((K : Int) + 1 == 1) = false := beq_eq_false_iff_ne.2 (by omega)
      have hp1 : 1 < (bs l).size := by omega
      have hb1 := at_bs l 1 hp1
      obtain ⟨b, hb⟩ : ∃ b, (bs l)[1]'hp1 = b := ⟨_, rfl⟩
      rw [hb] at hb1
      obtain ⟨v, hv⟩ : ∃ v : Int, (b.toNat : Int) = v := ⟨_, rfl⟩
      have hgev : (((bs l)[1]'hp1).toNat : Int) = v := by rw [hb, hv]
      by_cases h32 : v = 32
      ·have d32 : (v == 32) = true := beq_iff_eq.2 h32
       have hQf : Hid (Q = false) := Lib.hid (by
        rcases key.out with h | h
        ·exact h.2.2
        ·refine absurd ⟨h45, .inr ?_⟩ h.1
         rw [hb1]
         congr 1
         exact UInt8.toNat_inj.1 (by show b.toNat = 32; omega))
       clear h45 hK0 hb hb1 hv
       subst h32
       go_wp2_with fail
       go_meet
       exact ⟨true, rfl, Lib.hid (fun _ => hQf.out), Lib.hid (fun h => by cases h), HBr⟩
      ·have d32 : (v == 32) = false := beq_eq_false_iff_ne.2 h32
       have hQf : Hid (pairsB (l.drop 0) = Q) := Lib.hid (by
        rcases key.out with h | h
        ·exfalso
         rcases h.2.1 with h | h
         ·exact hK0 h
         ·rw [hb1] at h
          have := Option.some.inj h
          rw [this] at hv
          exact h32 hv.symm
        ·exact h.2)
       clear h45 hK0 hb hb1 hv h32
       go_wp2_with fail
       go_meet
       exact ⟨false, rfl, Lib.hid (fun h => by cases h), Lib.hid (fun _ => hQf.out), HBr⟩
    ·have d45 : (x == 45) = false := beq_eq_false_iff_ne.2 h45
     have hQf : Hid (pairsB (l.drop 0) = Q) := Lib.hid (by
      rcases key.out with h | h
      ·exact absurd h.1 h45
      ·exact h.2)
     clear h45
     go_wp2_with fail
     go_meet
     exact ⟨false, rfl, Lib.hid (fun h => by cases h), Lib.hid (fun _ => hQf.out), HBr⟩
   case rest =>
   obtain ⟨q, rfl, HQt, HQf, HB4⟩ := hcut
   cases q with
   | true =>
    obtain rfl := HQt.out rfl
    go_wp2_with fail
    go_ret
    exact ⟨rfl, HB4.out⟩
   | false =>
    have HP := Lib.hid (HQf.out rfl)
    clear HQt HQf key
    go_wp2_with fail
    go_loopw [7] (fun s7 wr => ∃ i : Nat, s7 = .int .i64 (i : Int) ∧ i ≤ K ∧ Hid (pairsB (l.drop i) = Q) ∧ Hid (Below w.heap.size w wr)) (fun s7 _ => K - (RowKit.intOf s7).toNat)
    case atStart => exact ⟨0, rfl, Nat.zero_le _, HP, HB4⟩
    case round =>
     obtain ⟨j, rfl, hj, HQj, HBj⟩ := hrel
     by_cases hlj : j < K
     ·have hj0 : j < (bs l).size := by omega
      have hj1 : j + 1 < (bs l).size := by omega
      have dj : decide ((j : Int) + 1 < (K : Int) + 1) = true := decide_eq_true (by omega)
      have hjz : (j : Int) + 1 < (K : Int) + 1 := by omega
      have dj2 : decide ((j : Int) < (K : Int)) = true := decide_eq_true (by omega)
      have hja := at_bs l j hj0
      have hjb := at_bs l (j + 1) hj1
      obtain ⟨a, ha⟩ : ∃ b, (bs l)[j]'hj0 = b := ⟨_, rfl⟩
      obtain ⟨b, hb⟩ : ∃ b, (bs l)[j + 1]'hj1 = b := ⟨_, rfl⟩
      rw [ha] at hja
      rw [hb] at hjb
      have hq := HQj.out
      rw [drop_byte hja, drop_byte hjb, pairsB, ← drop_byte hjb] at hq
      obtain ⟨u, hu⟩ : ∃ v : Int, (a.toNat : Int) = v := ⟨_, rfl⟩
      obtain ⟨v, hv⟩ : ∃ v : Int, (b.toNat : Int) = v := ⟨_, rfl⟩
      have hgeu : (((bs l)[j]'hj0).toNat : Int) = u := by rw [ha, hu]
      have hgev : (((bs l)[j + 1]'hj1).toNat : Int) = v := by rw [hb, hv]
      rw [byte_int hu 58, byte_int hv 32, byte_int hu 32, byte_int hv 35] at hq
      have HQn : Hid ((!(((u == 58) && (v == 32)) || ((u == 32) && (v == 35))) && pairsB (l.drop (j + 1))) = Q) := Lib.hid hq
      clear hq hja hjb ha hb hu hv HQj
      by_cases h1 : u = 58
      ·have t1 : (u == 58) = true := beq_iff_eq.2 h1
       have t2 : (u == 32) = false := beq_eq_false_iff_ne.2 (by omega)
       by_cases h2 : v = 32
       ·have t3 : (v == 32) = true := beq_iff_eq.2 h2
        obtain rfl : Q = false := by have := HQn.out; rw [t1, t3] at this; simpa using this.symm
        clear h1 h2 HQn
        go_wp2_with fail
        go_ret
        exact ⟨rfl, HBj.out⟩
       ·have t3 : (v == 32) = false := beq_eq_false_iff_ne.2 h2
        have HQm : Hid (pairsB (l.drop (j + 1)) = Q) := Lib.hid (by have := HQn.out; rw [t1, t2, t3] at this; simpa using this)
        clear h1 h2 HQn
        go_wp2_with fail
        go_roundw
        case rel => exact ⟨j + 1, by go_num, by omega, HQm, by first | exact HBj | exact Lib.hid (below_drewN HBj.out _)⟩
        case measure => simp [RowKit.intOf]; omega
      ·have t1 : (u == 58) = false := beq_eq_false_iff_ne.2 h1
       by_cases h2 : u = 32
       ·have t2 : (u == 32) = true := beq_iff_eq.2 h2
        by_cases h3 : v = 35
        ·have t3 : (v == 35) = true := beq_iff_eq.2 h3
         obtain rfl : Q = false := by have := HQn.out; rw [t1, t2, t3] at this; simpa using this.symm
         clear h1 h2 h3 HQn
         go_wp2_with fail
         go_ret
         exact ⟨rfl, HBj.out⟩
        ·have t3 : (v == 35) = false := beq_eq_false_iff_ne.2 h3
         have HQm : Hid (pairsB (l.drop (j + 1)) = Q) := Lib.hid (by have := HQn.out; rw [t1, t2, t3] at this; simpa using this)
         clear h1 h2 h3 HQn
         go_wp2_with fail
         go_roundw
         case rel => exact ⟨j + 1, by go_num, by omega, HQm, by first | exact HBj | exact Lib.hid (below_drewN HBj.out _)⟩
         case measure => simp [RowKit.intOf]; omega
       ·have t2 : (u == 32) = false := beq_eq_false_iff_ne.2 h2
        have HQm : Hid (pairsB (l.drop (j + 1)) = Q) := Lib.hid (by have := HQn.out; rw [t1, t2] at this; simpa using this)
        clear h1 h2 HQn
        go_wp2_with fail
        go_roundw
        case rel => exact ⟨j + 1, by go_num, by omega, HQm, by first | exact HBj | exact Lib.hid (below_drewN HBj.out _)⟩
        case measure => simp [RowKit.intOf]; omega
     ·have dj : decide ((j : Int) + 1 < (K : Int) + 1) = false := decide_eq_false (by omega)
      have dj2 : decide ((j : Int) < (K : Int)) = false := decide_eq_false (by omega)
      obtain rfl : Q = true := by
       have h := HQj.out
       have hjk : j = K := by omega
       have hlen : (l.drop j).length = 1 := by rw [List.length_drop, HK.out]; omega
       match hd : l.drop j, hlen with
       | [a], _ => rw [hd] at h; exact h.symm
      go_wp2_with fail
      go_ret
      exact ⟨rfl, HBj.out⟩
set_option maxRecDepth 100000 in
set_option maxHeartbeats 4000000 in
theorem rof_any (s : Stp) (w : World) :
  Calls Tryz.prog 51 #[.string (bs s)] w fun e w' => e = .returned (.agg #[.int .i64 4, .string (bs s), .slice none 0 0, .slice none 0 0]) ∧ Below w.heap.size w w' := by
 have ba := below_alloc1 w (.cells #[.int .i64 0, .string (bs []), .slice none 0 0, .slice none 0 0] 36)
 have hB0 := RsBox.new w 0 []
 obtain ⟨W1, hW1⟩ : ∃ W, w.alloc (.cells #[.int .i64 0, .string (bs []), .slice none 0 0, .slice none 0 0] 36) = W := ⟨_, rfl⟩
 rw [hW1] at ba hB0
 obtain ⟨y0, y1, y2, y3, f0, f1, f2, f3⟩ := hB0.cells
 have hW1' : w.alloc (.cells #[.int .i64 0, .string ⟨#[]⟩, .slice none 0 0, .slice none 0 0] 36) = W1 := hW1
 go_enter Tryz.func51, Tryz.ntmps51
 go_wp2_with fail
 clear y0 y1 y2 y3 f0 f1 f2 f3
 have hP := (hB0).put (k2 := 4) (t2 := s)
 have hPB := below_putRs (k := 4) (t := s) (ba) (Nat.le_refl w.heap.size)
 obtain ⟨WF, hWF⟩ : ∃ W, putRs W1 w.heap.size 4 s = W := ⟨_, rfl⟩
 rw [hWF] at hP hPB
 have hWF' : (((W1.setCell ⟨w.heap.size, 0, none⟩ (.int .i64 4)).setCell ⟨w.heap.size, 1, none⟩ (.string (bs s))).setCell ⟨w.heap.size, 2, none⟩ (.slice none 0 0)).setCell ⟨w.heap.size, 3, none⟩ (.slice none 0 0) = WF := hWF
 rw [hWF']
 obtain ⟨d0, d1, d2, d3, _⟩ := hP.cells
 clear hWF hWF'
 refine bodyPost_ret (v := .agg #[.int .i64 4, .string (bs s), .slice none 0 0, .slice none 0 0]) ?_ rfl ⟨rfl, hPB⟩
 simp [results, Tryz.results51, go_sem, d0, d1, d2, d3]
set_option maxRecDepth 100000 in
set_option maxHeartbeats 4000000 in
theorem rresolve_any (s : Stp) (w : World) (hs : s.length ≤ 1073741824) (hV : YVar w) :
  Calls Tryz.prog 34 #[.string (bs s)] w fun e w' => e = ResE s ∧ Below w.heap.size w w' := by
 have sl := bs_size s
 have ba := below_alloc1 w (.cells #[.int .i64 0, .string (bs []), .slice none 0 0, .slice none 0 0] 36)
 have hB0 := RsBox.new w 0 []
 obtain ⟨W1, hW1⟩ : ∃ W, w.alloc (.cells #[.int .i64 0, .string (bs []), .slice none 0 0, .slice none 0 0] 36) = W := ⟨_, rfl⟩
 rw [hW1] at ba hB0
 have HBa := Lib.hid ba
 have HB0 := Lib.hid hB0
 have HV := Lib.hid (hV.keep ba)
 obtain ⟨y0, y1, y2, y3, f0, f1, f2, f3⟩ := hB0.cells
 have hW1' : w.alloc (.cells #[.int .i64 0, .string ⟨#[]⟩, .slice none 0 0, .slice none 0 0] 36) = W1 := hW1
 have CP := Lib.hid (fun w => refParse_any s w (by omega))
 have hdg := parse_dig s
 have m0 := str_lit s []
 have m1 := str_lit s nullL
 have m2 := str_lit s [126]
 have m3 := str_lit s trueL
 have m4 := str_lit s falseL
 have e0 := str_nil2 s
 unfold nullL at m1
 unfold trueL at m3
 unfold falseL at m4
 unfold ResE resP
 obtain ⟨q0, h0⟩ : ∃ q, decide (s = []) = q := ⟨_, rfl⟩
 obtain ⟨q1, h1⟩ : ∃ q, decide (s = nullL) = q := ⟨_, rfl⟩
 obtain ⟨q2, h2⟩ : ∃ q, decide (s = [126]) = q := ⟨_, rfl⟩
 obtain ⟨q3, h3⟩ : ∃ q, decide (s = trueL) = q := ⟨_, rfl⟩
 obtain ⟨q4, h4⟩ : ∃ q, decide (s = falseL) = q := ⟨_, rfl⟩
 have m0 := m0.trans h0
 have m1 := m1.trans h1
 have m2 := m2.trans h2
 have m3 := m3.trans h3
 have m4 := m4.trans h4
 have n1 : decide (s = [110, 117, 108, 108]) = q1 := h1
 have n3 : decide (s = [116, 114, 117, 101]) = q3 := h3
 have n4 : decide (s = [102, 97, 108, 115, 101]) = q4 := h4
 have e0b : s.isEmpty = q0 := by rw [← h0]; cases s <;> simp
 rw [e0b] at e0
 have z0 : s = [] ↔ q0 = true := by rw [← h0]; simp
 have z1 : s = nullL ↔ q1 = true := by rw [← h1]; simp
 have z2 : s = [126] ↔ q2 = true := by rw [← h2]; simp
 have z3 : s = trueL ↔ q3 = true := by rw [← h3]; simp
 have z4 : s = falseL ↔ q4 = true := by rw [← h4]; simp
 have HZ := Lib.hid (And.intro z0 (And.intro z1 (And.intro z2 (And.intro z3 z4))))
 clear z0 z1 z2 z3 z4 h1 h3 h4 hV ba hB0 hW1
 obtain ⟨P, hP⟩ : ∃ P, parseL s = P := ⟨_, rfl⟩
 rw [hP] at CP hdg ⊢
 obtain ⟨n, er⟩ := P
 simp only [] at hdg ⊢
 by_cases c1 : (q0 || q1 || q2) = true
 ·have HC : Hid ((s = [] ∨ s = nullL ∨ s = [126])) := Lib.hid (by
   obtain ⟨a0, a1, a2, _⟩ := HZ.out
   simp only [Bool.or_eq_true] at c1
   rcases c1 with (h | h) | h
   ·exact .inl (a0.2 h)
   ·exact .inr (.inl (a1.2 h))
   ·exact .inr (.inr (a2.2 h)))
  rw [if_pos HC.out]
  cases q0 <;> cases q1 <;> cases q2
  ·cases c1
  all_goals
   go_enter Tryz.func34, Tryz.ntmps34
   go_wp2_with fail
   clear y0 y1 y2 y3 f0 f1 f2 f3
   have hP := (HB0.out).put (k2 := 1) (t2 := ([] : Stp))
   have hPB := below_putRs (k := 1) (t := ([] : Stp)) (HBa.out) (Nat.le_refl w.heap.size)
   obtain ⟨WF, hWF⟩ : ∃ W, putRs W1 w.heap.size 1 ([] : Stp) = W := ⟨_, rfl⟩
   rw [hWF] at hP hPB
   have hWF' : (((W1.setCell ⟨w.heap.size, 0, none⟩ (.int .i64 1)).setCell ⟨w.heap.size, 1, none⟩ (.string ⟨#[]⟩)).setCell ⟨w.heap.size, 2, none⟩ (.slice none 0 0)).setCell ⟨w.heap.size, 3, none⟩ (.slice none 0 0) = WF := hWF
   rw [hWF']
   obtain ⟨d0, d1, d2, d3, _⟩ := hP.cells
   clear hWF hWF'
   refine bodyPost_ret (v := .agg #[.int .i64 1, .string (bs ([] : Stp)), .slice none 0 0, .slice none 0 0]) ?_ rfl ⟨rfl, hPB⟩
   simp [results, Tryz.results34, go_sem, d0, d1, d2, d3]
 ·obtain ⟨rfl, rfl, rfl⟩ : q0 = false ∧ q1 = false ∧ q2 = false := by cases q0 <;> cases q1 <;> cases q2 <;> simp at c1 ⊢
  rw [if_neg (by
   obtain ⟨a0, a1, a2, _⟩ := HZ.out
   rintro (h | h | h)
   ·exact absurd (a0.1 h) (by decide)
   ·exact absurd (a1.1 h) (by decide)
   ·exact absurd (a2.1 h) (by decide))]
  by_cases c2 : (q3 || q4) = true
  ·rw [if_pos (by
    obtain ⟨_, _, _, a3, a4⟩ := HZ.out
    simp only [Bool.or_eq_true] at c2
    rcases c2 with h | h
    ·exact .inl (a3.2 h)
    ·exact .inr (a4.2 h))]
   cases q3 <;> cases q4
   ·cases c2
   all_goals
    go_enter Tryz.func34, Tryz.ntmps34
    go_wp2_with fail
    clear y0 y1 y2 y3 f0 f1 f2 f3
    have hP := (HB0.out).put (k2 := 2) (t2 := s)
    have hPB := below_putRs (k := 2) (t := s) (HBa.out) (Nat.le_refl w.heap.size)
    obtain ⟨WF, hWF⟩ : ∃ W, putRs W1 w.heap.size 2 s = W := ⟨_, rfl⟩
    rw [hWF] at hP hPB
    have hWF' : (((W1.setCell ⟨w.heap.size, 0, none⟩ (.int .i64 2)).setCell ⟨w.heap.size, 1, none⟩ (.string (bs s))).setCell ⟨w.heap.size, 2, none⟩ (.slice none 0 0)).setCell ⟨w.heap.size, 3, none⟩ (.slice none 0 0) = WF := hWF
    rw [hWF']
    obtain ⟨d0, d1, d2, d3, _⟩ := hP.cells
    clear hWF hWF'
    refine bodyPost_ret (v := .agg #[.int .i64 2, .string (bs s), .slice none 0 0, .slice none 0 0]) ?_ rfl ⟨rfl, hPB⟩
    simp [results, Tryz.results34, go_sem, d0, d1, d2, d3]
  ·obtain ⟨rfl, rfl⟩ : q3 = false ∧ q4 = false := by cases q3 <;> cases q4 <;> simp at c2 ⊢
   rw [if_neg (by
    obtain ⟨_, _, _, a3, a4⟩ := HZ.out
    rintro (h | h)
    ·exact absurd (a3.1 h) (by decide)
    ·exact absurd (a4.1 h) (by decide))]
   clear c1 c2 HZ
   by_cases he : er = 0
   ·subst he
    rw [if_pos rfl]
    have CT : Hid (∀ w', YVar w' → Calls Tryz.prog 74 #[.agg #[.bool n.neg, .string (bs n.dig), .int .i64 n.exp]] w' fun e w2 => e = .returned (.string (bs (textL n))) ∧ Below w'.heap.size w' w2) := Lib.hid (fun w' hv => refText_any n w' (by have := hdg rfl; omega))
    clear hdg
    obtain ⟨Z, hZ⟩ : ∃ Z, textL n = Z := ⟨_, rfl⟩
    rw [hZ] at CT ⊢
    go_enter Tryz.func34, Tryz.ntmps34
    go_wp2_with fail
    refine (CP.out _).mono ?_
    unfold Parsed numV
    rintro e w2 ⟨rfl, hb2⟩
    have HR2 := Lib.hid (HB0.out.keep hb2)
    have HB2 := Lib.hid (below_of_new HBa.out hb2)
    have HV2 := Lib.hid (HV.out.keep hb2)
    clear hb2 y0 y1 y2 y3 f0 f1 f2 f3
    have ba3 := below_alloc1 w2 (.cells #[.bool n.neg, .string (bs n.dig), .int .i64 n.exp] 96)
    have hN := NbBox.new w2 n
    obtain ⟨W3, hW3⟩ : ∃ W, w2.alloc (.cells #[.bool n.neg, .string (bs n.dig), .int .i64 n.exp] 96) = W := ⟨_, rfl⟩
    rw [hW3] at ba3 hN
    obtain ⟨x0, x1, x2, _⟩ := hN.cells
    have HR3 := Lib.hid (HR2.out.keep ba3)
    have HB3 := Lib.hid (below_of_new HB2.out ba3)
    have HV3 := Lib.hid (HV2.out.keep ba3)
    clear ba3 hN
    go_wp2_with fail
    refine (CT.out _ HV3.out).mono ?_
    rintro e w4 ⟨rfl, hb4⟩
    have HR4 := Lib.hid (HR3.out.keep hb4)
    have HB4 := Lib.hid (below_of_new HB3.out hb4)
    clear hb4 x0 x1 x2 hW3
    obtain ⟨y0, y1, y2, y3, f0, f1, f2, f3⟩ := HR4.out.cells
    go_wp2_with fail
    clear y0 y1 y2 y3 f0 f1 f2 f3
    have hP := (HR4.out).put (k2 := 3) (t2 := Z)
    have hPB := below_putRs (k := 3) (t := Z) (HB4.out) (Nat.le_refl w.heap.size)
    obtain ⟨WF, hWF⟩ : ∃ W, putRs w4 w.heap.size 3 Z = W := ⟨_, rfl⟩
    rw [hWF] at hP hPB
    have hWF' : (((w4.setCell ⟨w.heap.size, 0, none⟩ (.int .i64 3)).setCell ⟨w.heap.size, 1, none⟩ (.string (bs Z))).setCell ⟨w.heap.size, 2, none⟩ (.slice none 0 0)).setCell ⟨w.heap.size, 3, none⟩ (.slice none 0 0) = WF := hWF
    rw [hWF']
    obtain ⟨d0, d1, d2, d3, _⟩ := hP.cells
    clear hWF hWF'
    refine bodyPost_ret (v := .agg #[.int .i64 3, .string (bs Z), .slice none 0 0, .slice none 0 0]) ?_ rfl ⟨rfl, hPB⟩
    simp [results, Tryz.results34, go_sem, d0, d1, d2, d3]
   ·rw [if_neg he]
    have de : (er == 0) = false := beq_eq_false_iff_ne.2 he
    have CO := Lib.hid (fun w => rof_any s w)
    clear hdg
    go_enter Tryz.func34, Tryz.ntmps34
    go_wp2_with fail
    refine (CP.out _).mono ?_
    unfold Parsed numV
    rintro e w2 ⟨rfl, hb2⟩
    have HR2 := Lib.hid (HB0.out.keep hb2)
    have HB2 := Lib.hid (below_of_new HBa.out hb2)
    clear hb2 y0 y1 y2 y3 f0 f1 f2 f3
    have ba3 := below_alloc1 w2 (.cells #[.bool n.neg, .string (bs n.dig), .int .i64 n.exp] 96)
    have HR3 := Lib.hid (HR2.out.keep ba3)
    have HB3 := Lib.hid (below_of_new HB2.out ba3)
    clear ba3
    go_wp2_with fail
    refine (CO.out _).mono ?_
    rintro e w4 ⟨rfl, hb4⟩
    have HR4 := Lib.hid (HR3.out.keep hb4)
    have HB4 := Lib.hid (below_of_new HB3.out hb4)
    clear hb4
    obtain ⟨y0, y1, y2, y3, f0, f1, f2, f3⟩ := HR4.out.cells
    go_wp2_with fail
    clear y0 y1 y2 y3 f0 f1 f2 f3
    have hP := (HR4.out).put (k2 := 4) (t2 := s)
    have hPB := below_putRs (k := 4) (t := s) (HB4.out) (Nat.le_refl w.heap.size)
    obtain ⟨WF, hWF⟩ : ∃ W, putRs w4 w.heap.size 4 s = W := ⟨_, rfl⟩
    rw [hWF] at hP hPB
    have hWF' : (((w4.setCell ⟨w.heap.size, 0, none⟩ (.int .i64 4)).setCell ⟨w.heap.size, 1, none⟩ (.string (bs s))).setCell ⟨w.heap.size, 2, none⟩ (.slice none 0 0)).setCell ⟨w.heap.size, 3, none⟩ (.slice none 0 0) = WF := hWF
    rw [hWF']
    obtain ⟨d0, d1, d2, d3, _⟩ := hP.cells
    clear hWF hWF'
    refine bodyPost_ret (v := .agg #[.int .i64 4, .string (bs s), .slice none 0 0, .slice none 0 0]) ?_ rfl ⟨rfl, hPB⟩
    simp [results, Tryz.results34, go_sem, d0, d1, d2, d3]
theorem plain_good (l : List UInt8) (i : Nat) (hi : i < l.length) : plainB (decodeL (l.drop i)) = (decide ((l[i]'hi).toNat < 32) || !goodB (bs l) i) := by
 have hd := decodeL_drop (bs l) i
 rw [bs_data] at hd
 have h32 := rune_lt32 (l.drop (i + 1)) (l[i]'hi)
 rw [← List.drop_eq_getElem_cons hi, hd] at h32
 rw [hd]
 unfold plainB goodB runeI widN
 rw [Bool.not_not, show decide ((Utf8.decode (bs l) i).1 < 32) = decide ((l[i]'hi).toNat < 32) from by rw [decide_eq_decide]; exact h32]
 congr 1
 rw [Bool.eq_iff_iff]; simp; omega
set_option maxRecDepth 100000 in
set_option maxHeartbeats 4000000 in
theorem refSingle_any (l : List UInt8) (a : Int) (w : World) (hs : l.length ≤ 1073741824) :
  Calls Tryz.prog 62 #[.string (bs l), .int .i64 a] w fun e w' => e = ReadE (sqL l a) ∧ w = w' := by
 have sl := bs_size l
 obtain ⟨R, hR⟩ : ∃ R, sqL l a = R := ⟨_, rfl⟩
 rw [hR]
 unfold sqL at hR
 by_cases hout : a < 0 ∨ (l.length : Int) < a
 ·rw [if_pos hout] at hR
  subst hR
  rcases hout with h | h
  ·go_enter Tryz.func62, Tryz.ntmps62
   go_wp2_with fail
   go_ret3
   exact ⟨rfl, rfl⟩
  ·have hn : ¬ a < 0 := by omega
   go_enter Tryz.func62, Tryz.ntmps62
   go_wp2_with fail
   go_ret3
   exact ⟨rfl, rfl⟩
 rw [if_neg hout] at hR
 obtain ⟨k, rfl⟩ : ∃ k : Nat, a = k := ⟨a.toNat, by omega⟩
 rw [Int.toNat_natCast] at hR
 have hk0 : decide ((k : Int) < 0) = false := decide_eq_false (by omega)
 have hk1 : decide (l.length < k) = false := decide_eq_false (by omega)
 have hk2 : k ≤ l.length := by omega
 clear hout
 by_cases h39 : l[k]? = some 39
 ·rw [if_pos h39] at hR
  have hkl : k < l.length := (List.getElem?_eq_some_iff.1 h39).1
  have hkl' : k < (bs l).size := by omega
  have t1 : ((((bs l)[k]'hkl').toNat : Int) != 39) = false := by
   have := at_bs l k hkl'
   rw [h39] at this
   have h2 : (bs l)[k]'hkl' = 39 := by simpa using this.symm
   rw [h2]; rfl
  have t2 : ((k : Int) == (l.length : Int)) = false := beq_eq_false_iff_ne.2 (by omega)
  have HR := Lib.hid hR; clear hR h39
  go_enter Tryz.func62, Tryz.ntmps62
  go_wp2_with fail
  go_loop [7, 8] (fun s7 s8 => ∃ (i f : Nat) (acc : List UInt8), s7 = .string (bs acc) ∧ s8 = .int .i64 i ∧ i ≤ l.length ∧ acc.length ≤ i ∧ l.length < i + f ∧ Hid (sqGo f (l.drop i) i acc = R)) (fun _ s8 => l.length - (RowKit.intOf s8).toNat)
  case atStart => exact ⟨k + 1, l.length + 1, [], rfl, by go_num, by omega, by simp, by omega, HR.out⟩
  case round =>
   obtain ⟨i, f, acc, rfl, rfl, hi, hacc, hf, HG⟩ := hrel
   obtain ⟨g, rfl⟩ : ∃ g, f = g + 1 := ⟨f - 1, by omega⟩
   have sa := bs_size acc
   by_cases hlt : i < l.length
   ·have hlt' : i < (bs l).size := by omega
    have hdr : l.drop i = l[i]'hlt :: l.drop (i + 1) := List.drop_eq_getElem_cons hlt
    have hdd := decodeL_drop (bs l) i
    rw [bs_data] at hdd
    have hg := HG.out
    rw [hdr, sqGo_cons, ← hdr] at hg
    have hge := at_bs l i hlt'
    rw [List.getElem?_eq_getElem hlt] at hge
    have hge2 : (bs l)[i]'hlt' = l[i]'hlt := by simpa using hge.symm
    have T39 := byte_eq ((bs l)[i]'hlt') 39 39 rfl
    have hwb := widN_bd (bs l) i hlt'
    have hw2 : (decodeL (l.drop i)).2 = widN (bs l) i := by rw [hdd]; rfl
    rw [hw2, plain_good l i hlt, ← hge2] at hg
    by_cases hc : (bs l)[i]'hlt' = 39
    ·rw [if_pos hc, List.head?_drop] at hg
     rw [beq_iff_eq.2 hc] at T39
     by_cases hn : l[i + 1]? = some 39
     ·rw [if_pos hn, List.drop_drop] at hg
      have hi2 : i + 1 < l.length := (List.getElem?_eq_some_iff.1 hn).1
      have hi2' : i + 1 < (bs l).size := by omega
      have e39 : ((((bs l)[i + 1]'hi2').toNat : Int) != 39) = false := by
       have := at_bs l (i + 1) hi2'
       rw [hn] at this
       rw [show (bs l)[i + 1]'hi2' = 39 from (Option.some.inj this).symm]; rfl
      have dge : decide (l.length ≤ i + 1) = false := decide_eq_false (by omega)
      have HG2 := Lib.hid hg
      have hcat : ¬ 9223372036854775807 < (bs acc).size + (⟨#[39]⟩ : ByteArray).size := by show ¬ _ < _ + 1; omega
      clear hg hn hc hge hge2 hdr hdd hw2
      go_wp2_with fail
      go_round
      case rel => exact ⟨i + 2, g, acc ++ [39], by first | exact congrArg _ (bs_append acc [39]) | rfl, by go_num, by omega, by simp; omega, by omega, HG2.out⟩
      case measure => simp [RowKit.intOf]; omega
     ·rw [if_neg hn] at hg
      have HF := Lib.hid hg
      by_cases hi2 : i + 1 < l.length
      ·have hi2' : i + 1 < (bs l).size := by omega
       have e39 : ((((bs l)[i + 1]'hi2').toNat : Int) != 39) = true := by
        rw [bne_iff_ne]
        intro h
        apply hn
        rw [at_bs l (i + 1) hi2', show (bs l)[i + 1]'hi2' = 39 from UInt8.toNat_inj.1 (by show _ = 39; omega)]
       have dge : decide (l.length ≤ i + 1) = false := decide_eq_false (by omega)
       clear hg hn hc hge hge2 hdr hdd hw2
       go_wp2_with fail
       go_ret3
       exact ⟨by rw [← HF.out]; rfl, rfl⟩
      ·have dge : decide (l.length ≤ i + 1) = true := decide_eq_true (by omega)
       clear hg hn hc hge hge2 hdr hdd hw2
       go_wp2_with fail
       go_ret3
       exact ⟨by rw [← HF.out]; rfl, rfl⟩
    ·rw [if_neg hc] at hg
     rw [beq_eq_false_iff_ne.2 hc] at T39
     have CG := Lib.hid (fun w => good_at (bs l) i w hlt' (by omega))
     have CN := Lib.hid (fun w => refNext_at (bs l) i w hlt' (by omega))
     obtain ⟨c, hcc⟩ : ∃ c, (bs l)[i]'hlt' = c := ⟨_, rfl⟩
     rw [hcc] at hg
     obtain ⟨n, hn⟩ : ∃ n : Int, (c.toNat : Int) = n := ⟨_, rfl⟩
     have hge3 : (((bs l)[i]'hlt').toNat : Int) = n := by rw [hcc, hn]
     rw [hge3] at T39
     obtain ⟨RU, hRU⟩ : ∃ RU, runeI (bs l) i = RU := ⟨_, rfl⟩
     obtain ⟨WD, hWD⟩ : ∃ WD, widN (bs l) i = WD := ⟨_, rfl⟩
     obtain ⟨GB, hGB⟩ : ∃ GB, goodB (bs l) i = GB := ⟨_, rfl⟩
     rw [hGB] at CG hg
     rw [hRU, hWD] at CN
     rw [hWD] at hwb hg
     clear hdd hRU hWD hGB hdr hge hge2 hc hcc hw2
     by_cases h3 : n < 32
     ·rw [decide_eq_true (show c.toNat < 32 by omega), Bool.true_or, if_pos rfl] at hg
      have HF := Lib.hid hg
      clear hg hn
      cases GB with
      | true =>
       go_wp2_with (go_at_call 111; refine (CG.out _).mono ?_; rintro e w' ⟨rfl, rfl⟩)
       go_ret3
       exact ⟨by rw [← HF.out]; rfl, rfl⟩
      | false =>
       go_wp2_with (go_at_call 111; refine (CG.out _).mono ?_; rintro e w' ⟨rfl, rfl⟩)
       go_ret3
       exact ⟨by rw [← HF.out]; rfl, rfl⟩
     ·have d3 : decide (n < 32) = false := decide_eq_false h3
      rw [decide_eq_false (show ¬ c.toNat < 32 by omega), Bool.false_or] at hg
      cases GB with
      | false =>
       rw [if_pos (show (!false) = true from rfl)] at hg
       have HF := Lib.hid hg
       clear hg hn
       go_wp2_with (go_at_call 111; refine (CG.out _).mono ?_; rintro e w' ⟨rfl, rfl⟩)
       go_ret3
       exact ⟨by rw [← HF.out]; rfl, rfl⟩
      | true =>
       rw [if_neg (by simp), List.drop_drop] at hg
       have HG2 := Lib.hid hg
       have hsl : (bs l).extract i (i + WD) = bs ((l.drop i).take WD) := by
        apply ByteArray.ext
        apply Array.ext'
        simp [bs, List.drop_take]
       have stk := bs_size ((l.drop i).take WD)
       rw [List.length_take, List.length_drop] at stk
       have hcat : ¬ 9223372036854775807 < (bs acc).size + (bs ((l.drop i).take WD)).size := by omega
       clear hg hn
       go_wp2_with (go_at_call 111; refine (CG.out _).mono ?_; rintro e w' ⟨rfl, rfl⟩)
       refine (CN.out _).mono ?_
       rintro e w' ⟨rfl, rfl⟩
       go_wp2_with fail
       go_round
       case rel => exact ⟨i + WD, g, acc ++ (l.drop i).take WD, by congr 1 <;> first | rw [hsl, bs_append] | rw [hsl] | rfl, by go_num, by omega, by rw [List.length_append, List.length_take, List.length_drop]; omega, by omega, HG2.out⟩
       case measure => simp [RowKit.intOf]; omega
   ·have hg := HG.out
    rw [List.drop_of_length_le (by omega)] at hg
    have HF := Lib.hid (show ([], (i : Int), 2) = R from hg)
    obtain rfl : i = l.length := by omega
    clear hg HG
    go_wp2_with fail
    go_ret3
    exact ⟨by rw [← HF.out]; rfl, rfl⟩
 ·rw [if_neg h39] at hR
  subst hR
  by_cases hkl : k < l.length
  ·have hkl' : k < (bs l).size := by omega
   have t1 : ((((bs l)[k]'hkl').toNat : Int) != 39) = true := by
    rw [bne_iff_ne]
    intro h
    apply h39
    rw [at_bs l k hkl']
    have : ((bs l)[k]'hkl') = 39 := UInt8.toNat_inj.1 (by show _ = 39; omega)
    rw [this]
   have t2 : ((k : Int) == (l.length : Int)) = false := beq_eq_false_iff_ne.2 (by omega)
   clear h39
   go_enter Tryz.func62, Tryz.ntmps62
   go_wp2_with fail
   go_ret3
   exact ⟨rfl, rfl⟩
  ·obtain rfl : k = l.length := by omega
   clear h39 hkl
   go_enter Tryz.func62, Tryz.ntmps62
   go_wp2_with fail
   go_ret3
   exact ⟨rfl, rfl⟩
end Go.Proofs.YtbldfpkfinpciaaGreatDoor
