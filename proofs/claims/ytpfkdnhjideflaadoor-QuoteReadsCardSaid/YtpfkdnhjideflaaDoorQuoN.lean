import Derived.Test.YtpfkdnhjideflaaDoorQuoM
/-! The walks of the laws QuoteBack, QuoteEnds. -/
namespace Go.Proofs.YtpfkdnhjideflaaDoor
set_option linter.unusedSimpArgs false
set_option linter.unusedVariables false
open Go.RowKit
open Go.Lib hiding intOf

theorem read_len : ∀ (f : Nat) (l : List UInt8) (i : Nat) (acc : List UInt8), (readGo f l i acc).1.length ≤ acc.length + 4 * l.length
  | 0, _, _, _ => by simp [readGo]
  | _ + 1, [], _, _ => by simp [readGo]
  | f + 1, c :: r, i, acc => by
    unfold readGo
    split
    · simp only []; omega
    · split
      · simp
      · rename_i h2
        have hp := partL_bd (c :: r) (List.cons_ne_nil _ _)
        have hl := Lib.runeCells_le (partL (c :: r)).1
        rw [Lib.runeCells_length] at hl
        have := read_len f ((c :: r).drop (partL (c :: r)).2.toNat) (i + (partL (c :: r)).2.toNat) (acc ++ encodeRune (partL (c :: r)).1)
        rw [List.length_drop, List.length_append] at this
        simp only [List.length_cons] at this hp ⊢
        omega
theorem unq_len (l : List UInt8) : (unqL l).1.length ≤ 4 * l.length := by
  have h : (readL l 0).1.length ≤ 4 * l.length := by
    unfold readL
    split
    · have := read_len (l.length + 1) (l.drop ((0 : Int).toNat + 1)) ((0 : Int).toNat + 1) []
      rw [List.length_drop] at this
      simp only [List.length_nil] at this
      omega
    · simp
  unfold unqL
  split
  · simp
  · exact h
theorem quote_len (l : List UInt8) : (quoteL l).1.length ≤ 6 * l.length + 2 := by
  unfold quoteL
  split
  · have := (qBs_len l).2
    simp only [List.length_cons, List.length_append, List.length_nil]; omega
  · simp
theorem valid_at (l : List UInt8) (b : Bool) (h : validD l = b) (w : World) (hs : l.length ≤ 1073741824) (hT : Tabs w) :
    ∃ N, Calls Tryd.prog 26 #[.string (bs l)] w fun e w' => e = .returned (.tuple #[.int .i64 N, .bool b]) ∧ Below w.heap.size w w' := by
  have C := valid_any (bs l) w (by rw [bs_size]; omega) hT
  rw [validRes_snd, bs_data, h] at C
  exact ⟨_, C⟩
theorem valid_N (l : List UInt8) (b : Bool) (h : validD l = b) (hs : l.length ≤ 1073741824) :
    ∃ N, ∀ w, Tabs w → Calls Tryd.prog 26 #[.string (bs l)] w fun e w' => e = .returned (.tuple #[.int .i64 N, .bool b]) ∧ Below w.heap.size w w' :=
  ⟨(validRes (bs l)).1, fun w hT => by
    have C := valid_any (bs l) w (by rw [bs_size]; omega) hT
    rw [validRes_snd, bs_data, h] at C
    exact C⟩
set_option maxRecDepth 100000 in
set_option maxHeartbeats 4000000 in
theorem quoteBack_any (s t : ByteArray) (w : World) (hs : s.size ≤ 1048576) (ht : t.size ≤ 1048576) (hV : Qv w) :
    Calls Tryd.prog 8 #[.string s, .string t] w fun e w' => e = .returned (.bool true) ∧ Below w.heap.size w w' := by
  have C0 := Lib.hid (fun w h => qsmall_any w h)
  have HV0 := Lib.hid hV; clear hV
  obtain ⟨l, rfl⟩ : ∃ l, s = bs l := ⟨s.data.toList, (bs_of s).symm⟩
  obtain ⟨m, rfl⟩ : ∃ m, t = bs m := ⟨t.data.toList, (bs_of t).symm⟩
  have sl := bs_size l
  have sm := bs_size m
  cases hv : validD l with
  | true =>
    obtain ⟨N, CV⟩ := valid_N l true hv (by omega)
    have CV := Lib.hid CV
    obtain ⟨q0, hq⟩ : ∃ q, quoteL l = (q, 0) := ⟨34 :: (qBs l ++ [34]), by unfold quoteL; rw [if_pos hv]⟩
    have hql := quote_len l
    have huq := unq_quote l hv
    rw [hq] at hql huq
    have sq := bs_size q0
    have C1 := Lib.hid (fun w h => quote_at' l q0 0 hq w (by omega) h)
    have C2 := Lib.hid (fun w h => unq_at q0 l _ 0 huq w (by simp only [] at hql; omega) h)
    clear hv hq huq
    go_enter Tryd.func8, Tryd.ntmps8
    go_wp2_with fail
    with_reducible refine (C0.out _ HV0.out).mono ?_
    rintro e w1 ⟨rfl, hb1⟩
    have HB1 := Lib.hid hb1; have HV1 := Lib.hid (HV0.out.keep hb1); clear hb1
    go_wp2_with fail
    with_reducible refine (C1.out _ HV1.out).mono ?_
    rintro e w2 ⟨rfl, hb2⟩
    have HB2 := Lib.hid (below_of_new HB1.out hb2); have HV2 := Lib.hid (HV1.out.keep hb2); clear hb2
    go_wp2_with fail
    with_reducible refine (CV.out _ HV2.out.t).mono ?_
    rintro e w3 ⟨rfl, hb3⟩
    have HB3 := Lib.hid (below_of_new HB2.out hb3); have HV3 := Lib.hid (HV2.out.keep hb3); clear hb3
    go_wp2_with fail
    with_reducible refine (C2.out _ HV3.out).mono ?_
    rintro e w4 ⟨rfl, hb4⟩
    have HB4 := Lib.hid (below_of_new HB3.out hb4); have HV4 := Lib.hid (HV3.out.keep hb4); clear hb4
    by_cases hf : (unqL m).2.2 = 0
    · obtain ⟨r, n, hu⟩ : ∃ r n, unqL m = (r, n, 0) := ⟨_, _, by rw [← hf]⟩
      have uf := (unq_facts m).2 (by rw [hu])
      have ul := unq_len m
      rw [hu] at uf ul
      obtain ⟨un, uv⟩ := uf
      simp only [] at un uv ul
      subst un
      have CU := Lib.hid (fun w h => unq_at m r _ 0 hu w (by omega) h)
      have hql := quote_len r
      obtain ⟨q, hq⟩ : ∃ q, quoteL r = (q, 0) := ⟨34 :: (qBs r ++ [34]), by unfold quoteL; rw [if_pos uv]⟩
      have huq := unq_quote r uv
      rw [hq] at huq hql
      have CQ := Lib.hid (fun w h => quote_at' r q 0 hq w (by omega) h)
      have CR := Lib.hid (fun w h => unq_at q r _ 0 huq w (by simp only [] at hql; omega) h)
      clear hf hu uv hq huq
      go_wp2_with fail
      with_reducible refine (CU.out _ HV4.out).mono ?_
      rintro e w5 ⟨rfl, hb5⟩
      have HB5 := Lib.hid (below_of_new HB4.out hb5); have HV5 := Lib.hid (HV4.out.keep hb5); clear hb5
      go_wp2_with fail
      with_reducible refine (CQ.out _ HV5.out).mono ?_
      rintro e w6 ⟨rfl, hb6⟩
      have HB6 := Lib.hid (below_of_new HB5.out hb6); have HV6 := Lib.hid (HV5.out.keep hb6); clear hb6
      go_wp2_with fail
      with_reducible refine (CR.out _ HV6.out).mono ?_
      rintro e w7 ⟨rfl, hb7⟩
      have HB7 := Lib.hid (below_of_new HB6.out hb7); have HV7 := Lib.hid (HV6.out.keep hb7); clear hb7
      go_wp2_with fail
      go_ret
      exact ⟨rfl, HB7.out⟩
    · obtain ⟨r, n, er, hu⟩ : ∃ r n er, unqL m = (r, n, er) := ⟨_, _, _, rfl⟩
      have uf := (unq_facts m).1 hf
      rw [hu] at uf
      obtain ⟨u1, u2, u3, u4⟩ := uf
      simp only [] at u1 u2 u3 u4
      subst u1 u4
      have CU : Hid (∀ w, Qv w → Calls Tryd.prog 27 #[.string (bs m)] w fun e w' => e = .returned (.tuple #[.string ⟨#[]⟩, .int .i64 n, .int .i64 2]) ∧ Below w.heap.size w w') := Lib.hid (fun w h => unq_at m [] n 2 hu w (by omega) h)
      clear hf hu
      go_wp2_with fail
      with_reducible refine (CU.out _ HV4.out).mono ?_
      rintro e w5 ⟨rfl, hb5⟩
      have HB5 := Lib.hid (below_of_new HB4.out hb5); have HV5 := Lib.hid (HV4.out.keep hb5); clear hb5
      go_wp2_with fail
      go_ret
      exact ⟨rfl, HB5.out⟩
  | false =>
    obtain ⟨N, CV⟩ := valid_N l false hv (by omega)
    have CV := Lib.hid CV
    have hq : quoteL l = ([], 2) := by unfold quoteL; rw [hv]; rfl
    have C1 := Lib.hid (fun w h => quote_at' l [] 2 hq w (by omega) h)
    clear hv hq
    go_enter Tryd.func8, Tryd.ntmps8
    go_wp2_with fail
    with_reducible refine (C0.out _ HV0.out).mono ?_
    rintro e w1 ⟨rfl, hb1⟩
    have HB1 := Lib.hid hb1; have HV1 := Lib.hid (HV0.out.keep hb1); clear hb1
    go_wp2_with fail
    with_reducible refine (C1.out _ HV1.out).mono ?_
    rintro e w2 ⟨rfl, hb2⟩
    have HB2 := Lib.hid (below_of_new HB1.out hb2); have HV2 := Lib.hid (HV1.out.keep hb2); clear hb2
    go_wp2_with fail
    with_reducible refine (CV.out _ HV2.out.t).mono ?_
    rintro e w3 ⟨rfl, hb3⟩
    have HB3 := Lib.hid (below_of_new HB2.out hb3); have HV3 := Lib.hid (HV2.out.keep hb3); clear hb3
    by_cases hf : (unqL m).2.2 = 0
    · obtain ⟨r, n, hu⟩ : ∃ r n, unqL m = (r, n, 0) := ⟨_, _, by rw [← hf]⟩
      have uf := (unq_facts m).2 (by rw [hu])
      have ul := unq_len m
      rw [hu] at uf ul
      obtain ⟨un, uv⟩ := uf
      simp only [] at un uv ul
      subst un
      have CU := Lib.hid (fun w h => unq_at m r _ 0 hu w (by omega) h)
      have hql := quote_len r
      obtain ⟨q, hq⟩ : ∃ q, quoteL r = (q, 0) := ⟨34 :: (qBs r ++ [34]), by unfold quoteL; rw [if_pos uv]⟩
      have huq := unq_quote r uv
      rw [hq] at huq hql
      have CQ := Lib.hid (fun w h => quote_at' r q 0 hq w (by omega) h)
      have CR := Lib.hid (fun w h => unq_at q r _ 0 huq w (by simp only [] at hql; omega) h)
      clear hf hu uv hq huq
      go_wp2_with fail
      with_reducible refine (CU.out _ HV3.out).mono ?_
      rintro e w4 ⟨rfl, hb4⟩
      have HB4 := Lib.hid (below_of_new HB3.out hb4); have HV4 := Lib.hid (HV3.out.keep hb4); clear hb4
      go_wp2_with fail
      with_reducible refine (CQ.out _ HV4.out).mono ?_
      rintro e w5 ⟨rfl, hb5⟩
      have HB5 := Lib.hid (below_of_new HB4.out hb5); have HV5 := Lib.hid (HV4.out.keep hb5); clear hb5
      go_wp2_with fail
      with_reducible refine (CR.out _ HV5.out).mono ?_
      rintro e w6 ⟨rfl, hb6⟩
      have HB6 := Lib.hid (below_of_new HB5.out hb6); have HV6 := Lib.hid (HV5.out.keep hb6); clear hb6
      go_wp2_with fail
      go_ret
      exact ⟨rfl, HB6.out⟩
    · obtain ⟨r, n, er, hu⟩ : ∃ r n er, unqL m = (r, n, er) := ⟨_, _, _, rfl⟩
      have uf := (unq_facts m).1 hf
      rw [hu] at uf
      obtain ⟨u1, u2, u3, u4⟩ := uf
      simp only [] at u1 u2 u3 u4
      subst u1 u4
      have CU : Hid (∀ w, Qv w → Calls Tryd.prog 27 #[.string (bs m)] w fun e w' => e = .returned (.tuple #[.string ⟨#[]⟩, .int .i64 n, .int .i64 2]) ∧ Below w.heap.size w w') := Lib.hid (fun w h => unq_at m [] n 2 hu w (by omega) h)
      clear hf hu
      go_wp2_with fail
      with_reducible refine (CU.out _ HV3.out).mono ?_
      rintro e w4 ⟨rfl, hb4⟩
      have HB4 := Lib.hid (below_of_new HB3.out hb4); have HV4 := Lib.hid (HV3.out.keep hb4); clear hb4
      go_wp2_with fail
      go_ret
      exact ⟨rfl, HB4.out⟩
set_option maxRecDepth 100000 in
set_option maxHeartbeats 4000000 in
theorem quoteEnds_any (f s b : ByteArray) (w : World) (hf : f.size ≤ 1048576) (hs : s.size ≤ 1048576) (hb : b.size ≤ 1048576) (hV : Qv w) :
    Calls Tryd.prog 11 #[.string f, .string s, .string b] w fun e w' => e = .returned (.bool true) ∧ Below w.heap.size w w' := by
  have C0 := Lib.hid (fun w h => qsmall_any w h)
  have HV0 := Lib.hid hV; clear hV
  obtain ⟨l, rfl⟩ : ∃ l, s = bs l := ⟨s.data.toList, (bs_of s).symm⟩
  obtain ⟨x, rfl⟩ : ∃ x, f = bs x := ⟨f.data.toList, (bs_of f).symm⟩
  obtain ⟨y, rfl⟩ : ∃ y, b = bs y := ⟨b.data.toList, (bs_of b).symm⟩
  have sl := bs_size l
  have sx := bs_size x
  have sy := bs_size y
  cases hv : validD l with
  | true =>
    obtain ⟨q0, hq⟩ : ∃ q, quoteL l = (q, 0) := ⟨34 :: (qBs l ++ [34]), by unfold quoteL; rw [if_pos hv]⟩
    have hql := quote_len l
    have hen := end_quote x l y hv
    rw [hq] at hql hen
    simp only [] at hql hen
    have sq := bs_size q0
    have sxq : (bs x ++ bs q0).size = (bs x).size + (bs q0).size := ByteArray.size_append
    have C1 := Lib.hid (fun w h => quote_at' l q0 0 hq w (by omega) h)
    have C2 : Hid (∀ w, Qv w → Calls Tryd.prog 29 #[.string (bs x ++ bs q0 ++ bs y), .int .i64 (x.length : Int)] w fun e w' => e = .returned (.tuple #[.int .i64 ((x.length : Int) + q0.length), .int .i64 0]) ∧ Below w.heap.size w w') := Lib.hid (fun w h => by
      have := end_any (x ++ q0 ++ y) (x.length : Int) w (by simp only [List.length_append]; omega) h.s h.t
      rw [hen] at this
      rw [bs_append, bs_append]
      exact this)
    clear hv hq hen
    go_enter Tryd.func11, Tryd.ntmps11
    go_wp2_with fail
    with_reducible refine (C0.out _ HV0.out).mono ?_
    rintro e w1 ⟨rfl, hb1⟩
    have HB1 := Lib.hid hb1; have HV1 := Lib.hid (HV0.out.keep hb1); clear hb1
    go_wp2_with fail
    with_reducible refine (C1.out _ HV1.out).mono ?_
    rintro e w2 ⟨rfl, hb2⟩
    have HB2 := Lib.hid (below_of_new HB1.out hb2); have HV2 := Lib.hid (HV1.out.keep hb2); clear hb2
    go_wp2_with fail
    with_reducible refine (C2.out _ HV2.out).mono ?_
    rintro e w3 ⟨rfl, hb3⟩
    have HB3 := Lib.hid (below_of_new HB2.out hb3); have HV3 := Lib.hid (HV2.out.keep hb3); clear hb3
    go_wp2_with fail
    go_ret
    exact ⟨rfl, HB3.out⟩
  | false =>
    have hq : quoteL l = ([], 2) := by unfold quoteL; rw [hv]; rfl
    have C1 := Lib.hid (fun w h => quote_at' l [] 2 hq w (by omega) h)
    clear hv hq
    go_enter Tryd.func11, Tryd.ntmps11
    go_wp2_with fail
    with_reducible refine (C0.out _ HV0.out).mono ?_
    rintro e w1 ⟨rfl, hb1⟩
    have HB1 := Lib.hid hb1; have HV1 := Lib.hid (HV0.out.keep hb1); clear hb1
    go_wp2_with fail
    with_reducible refine (C1.out _ HV1.out).mono ?_
    rintro e w2 ⟨rfl, hb2⟩
    have HB2 := Lib.hid (below_of_new HB1.out hb2); have HV2 := Lib.hid (HV1.out.keep hb2); clear hb2
    go_wp2_with fail
    go_ret
    exact ⟨rfl, HB2.out⟩
end Go.Proofs.YtpfkdnhjideflaaDoor
