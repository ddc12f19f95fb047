import Derived.Test.YtbldfpkfinpciaaGreatDoorRa20
namespace Go.Proofs.YtbldfpkfinpciaaGreatDoor
set_option linter.unusedSimpArgs false
set_option linter.unusedVariables false
open Go.RowKit
open Go.Lib hiding intOf
theorem sqGo_bdR : ∀ (f : Nat) (l : List UInt8) (i : Nat) (acc : List UInt8), (i : Int) ≤ (sqGo f l i acc).2.1 ∧ (sqGo f l i acc).2.1 ≤ i + l.length
 | 0, _, _, _ => by simp [sqGo]; omega
 | _ + 1, [], _, _ => by simp [sqGo]
 | f + 1, c :: r, i, acc => by
  rw [sqGo_cons]
  split
  ·split
   ·rename_i h
    have := sqGo_bdR f (r.drop 1) (i + 2) (acc ++ [39])
    rw [List.length_drop] at this
    have h0 : 0 < r.length := by cases r with | nil => simp at h | cons _ _ => simp
    simp only [List.length_cons]
    omega
   ·simp only [List.length_cons]; omega
  ·split
   ·simp only [List.length_cons]; omega
   ·have hle := decodeL_le (c :: r) (List.cons_ne_nil _ _)
    have := sqGo_bdR f ((c :: r).drop (decodeL (c :: r)).2) (i + (decodeL (c :: r)).2) (acc ++ (c :: r).take (decodeL (c :: r)).2)
    rw [List.length_drop] at this
    omega
theorem sq0_bdR (l : List UInt8) : 0 ≤ (sqL l 0).2.1 ∧ (sqL l 0).2.1 ≤ l.length := by
 unfold sqL
 rw [if_neg (by omega)]
 by_cases h1 : l[(0 : Int).toNat]? = some 39
 ·rw [if_pos h1]
  have := sqGo_bdR (l.length + 1) (l.drop ((0 : Int).toNat + 1)) ((0 : Int).toNat + 1) []
  rw [List.length_drop] at this
  have hl := (List.getElem?_eq_some_iff.1 h1).1
  simp only [Int.toNat_zero] at this hl ⊢
  omega
 ·rw [if_neg h1]; simp
theorem sqGo_err : ∀ (f : Nat) (l : List UInt8) (i : Nat) (acc : List UInt8), (sqGo f l i acc).2.2 = 0 ∨ (sqGo f l i acc).2.2 = 2
 | 0, _, _, _ => .inr rfl
 | _ + 1, [], _, _ => .inr rfl
 | f + 1, c :: r, i, acc => by
  rw [sqGo_cons]
  split
  ·split
   ·exact sqGo_err f _ _ _
   ·exact .inl rfl
  ·split
   ·exact .inr rfl
   ·exact sqGo_err f _ _ _
theorem sqL_err (l : List UInt8) (a : Int) : (sqL l a).2.2 = 0 ∨ (sqL l a).2.2 = 2 := by
 unfold sqL
 split
 ·exact .inr rfl
 ·split
  ·exact sqGo_err _ _ _ _
  ·exact .inr rfl
set_option maxRecDepth 100000 in
set_option maxHeartbeats 4000000 in
theorem rread11_of (t : Stp) (w : World) (hs : t.length ≤ 1073741824) (hV : AVar w) (hCJ : ∀ w', Calls Tryz.prog 63 #[.string (bs t)] w' (NewE3 (readJ t).1 (readJ t).2.1 (readJ t).2.2 w')) :
    Calls Tryz.prog 27 #[.string (bs t)] w (NewE2 (readY t).1 (readY t).2 w) := by
  have sl := bs_size t
  obtain ⟨R, hR⟩ : ∃ R, w.heap.size = R := ⟨_, rfl⟩
  obtain ⟨W1, hW1⟩ : ∃ W, w.alloc (.cells #[.int .i64 0, .string ⟨#[]⟩, .slice none 0 0, .slice none 0 0] 36) = W := ⟨_, rfl⟩
  have HB1 : Hid (Below w.heap.size w W1) := Lib.hid (by rw [← hW1]; exact below_alloc1 _ _)
  have HR1 : Hid (W1.heap[R]? = some (.cells #[.int .i64 0, .string (bs []), .slice none 0 0, .slice none 0 0] 36)) := Lib.hid (by rw [← hW1, ← hR]; exact heap_alloc_new w _)
  have HRl := Lib.hid (cell_it HR1.out)
  have HRw : Hid (w.heap.size ≤ R) := Lib.hid (by rw [hR]; exact Nat.le_refl _)
  have HV := Lib.hid (hV.keep HB1.out)
  have CRes : Hid (∀ (s : Stp) w', s.length ≤ 1073741824 → Below W1.heap.size W1 w' → Calls Tryz.prog 34 #[.string (bs s)] w' fun e w2 => e = ResE s ∧ Below w'.heap.size w' w2) := Lib.hid (fun s w' h hb => rresolve_any s w' h (HV.out.keep hb).1)
  have COf : Hid (∀ (s : Stp) w', Calls Tryz.prog 51 #[.string (bs s)] w' fun e w2 => e = .returned (.agg #[.int .i64 4, .string (bs s), .slice none 0 0, .slice none 0 0]) ∧ Below w'.heap.size w' w2) := Lib.hid (fun s w' => rof_any s w')
  unfold ResE at CRes
  cases t with
  | nil =>
    have e0 : ((bs ([] : Stp)).toList == []) = true := str_nil []
    have e0b : (bs ([] : Stp)).toList.isEmpty = true := str_nil2 []
    show Calls _ _ _ _ (NewE2 (resT []) 0 w)
    have CR := Lib.hid (fun w' hb => CRes.out [] w' (by decide) hb)
    obtain ⟨⟨rk, rs⟩, hrs⟩ : ∃ Q, resP [] = Q := ⟨_, rfl⟩
    have hrt : resT [] = .mk rk rs [] [] := by unfold resT; rw [hrs]
    rw [hrs] at CR
    rw [hrt]
    clear hrs hrt CRes
    clear hV hCJ
    go_enter Tryz.func27, Tryz.ntmps27
    go_upto_region 1 with fail
    clear hW1 hR
    go_wp2_with fail
    refine (CR.out _ (Below.refl _ _)).mono ?_
    rintro e w2 ⟨rfl, hb2⟩
    have HB2 := Lib.hid hb2
    clear hb2
    have HPN := Lib.hid (putNew (t := VT.mk rk rs [] []) HB1.out HRw.out HRl.out (leafV _ _ _ _) HB2.out HR1.out)
    obtain ⟨r0, r1, r2, r3, f0, f1, f2, f3⟩ := box4 ((HB2.out.block R HRl.out).trans HR1.out)
    go_wp2_with fail
    obtain ⟨WF, hWF⟩ : ∃ W, putV w2 R rk rs (.slice none 0 0) (.slice none 0 0) = W := ⟨_, rfl⟩
    have hPN : VDf w.heap.size (putV w2 R rk rs (.slice none 0 0) (.slice none 0 0)) (VT.mk rk rs [] []).depth (VT.mk rk rs [] []) (.slice none 0 0) (.slice none 0 0) ∧ Below w.heap.size w (putV w2 R rk rs (.slice none 0 0) (.slice none 0 0)) ∧ (putV w2 R rk rs (.slice none 0 0) (.slice none 0 0)).heap[R]? = some (.cells #[.int .i64 rk, .string (bs rs), (.slice none 0 0), (.slice none 0 0)] 36) := HPN.out
    rw [hWF] at hPN
    have HPN2 := Lib.hid hPN
    have hWF' : (((w2.setCell ⟨R, 0, none⟩ (.int .i64 rk)).setCell ⟨R, 1, none⟩ (.string (bs rs))).setCell ⟨R, 2, none⟩ (.slice none 0 0)).setCell ⟨R, 3, none⟩ (.slice none 0 0) = WF := hWF
    first
      | rw [hWF']
      | (have hWF2 : (((w2.setCell ⟨R, 0, none⟩ (.int .i64 rk)).setCell ⟨R, 1, none⟩ (.string ⟨#[]⟩)).setCell ⟨R, 2, none⟩ (.slice none 0 0)).setCell ⟨R, 3, none⟩ (.slice none 0 0) = WF := hWF
         rw [hWF2])
    clear hWF hWF' hPN r0 r1 r2 r3 f0 f1 f2 f3 HPN
    obtain ⟨d0, d1, d2, d3, _⟩ := box4 HPN2.out.2.2
    refine bodyPost_ret (v := .tuple #[.agg #[.int .i64 rk, .string (bs rs), (.slice none 0 0), (.slice none 0 0)], .int .i64 0]) ?_ rfl ⟨⟨_, _, rfl, HPN2.out.1⟩, HPN2.out.2.1⟩
    simp [results, Tryz.results27, go_sem, d0, d1, d2, d3]
  | cons c r =>
    have CU := Lib.hid (fun w' => refUnquote_any (c :: r) w' hs)
    have CS := Lib.hid (fun w' => refSingle_any (c :: r) 0 w' hs)
    unfold ReadE at CU CS
    have CB := Lib.hid (fun w' (hb : Below W1.heap.size W1 w') => rbare_any (c :: r) w' (by omega))
    have CJ := Lib.hid (fun w' (_ : Below W1.heap.size W1 w') => hCJ w')
    unfold readY
    simp only []
    obtain ⟨t, ht⟩ : ∃ t, c :: r = t := ⟨_, rfl⟩
    have hlen : 0 < t.length := by rw [← ht]; simp
    have hc0 : (bs t)[0]'(by rw [bs_size]; exact hlen) = c := by
      subst ht
      rfl
    have hne : t ≠ [] := by rw [← ht]; simp
    have e0 : ((bs t).toList == []) = false := by rw [str_nil]; cases t <;> simp at hne ⊢
    have e0b : (bs t).toList.isEmpty = false := by rw [str_nil2]; cases t <;> simp at hne ⊢
    have hhd : t.head? = some c := by rw [← ht]; rfl
    rw [ht] at hs sl CU CS CB CJ ⊢
    have q34 := u8_eq c 34
    have q39 := u8_eq c 39
    have q91 := u8_eq c 91
    have q123 := u8_eq c 123
    clear ht hne hV hCJ
    by_cases hq : c = 34
    · rw [if_pos (.inl hq)]
      have hS : textY t = ((unqL t).1, (unqL t).2.2) := by unfold textY; rw [hhd, hq, if_neg (by decide)]
      rw [hS]
      obtain ⟨⟨S, a, er⟩, hU⟩ : ∃ U, unqL t = U := ⟨_, rfl⟩
      rw [hU] at CU
      rw [hU]
      simp only []
      have d34 : ((c.toNat : Int) == 34) = true := by rw [hq]; rfl
      clear hS hU CB CJ CS q91 q123 hq q34 q39
      by_cases he : er = 0
      · subst he
        rw [if_neg (by simp)]
        have CO := Lib.hid (COf.out S)
        · skip
          go_enter Tryz.func27, Tryz.ntmps27
          go_upto_region 1 with fail
          clear hW1 hR
          go_wp2_with fail
          refine (CU.out _).mono ?_
          rintro e w2 ⟨rfl, hb2⟩
          have HB2 := Lib.hid hb2
          clear hb2
          go_wp2_with fail
          refine (CO.out _).mono ?_
          rintro e w3 ⟨rfl, hb3⟩
          have HB3 := Lib.hid (below_of_new HB2.out hb3)
          clear hb3
          have HPN := Lib.hid (putNew (t := strT S) HB1.out HRw.out HRl.out (leafV _ _ _ _) HB3.out HR1.out)
          obtain ⟨r0, r1, r2, r3, f0, f1, f2, f3⟩ := box4 ((HB3.out.block R HRl.out).trans HR1.out)
          go_wp2_with fail
          obtain ⟨WF, hWF⟩ : ∃ W, putV w3 R 4 S (.slice none 0 0) (.slice none 0 0) = W := ⟨_, rfl⟩
          have hPN : VDf w.heap.size (putV w3 R 4 S (.slice none 0 0) (.slice none 0 0)) (strT S).depth (strT S) (.slice none 0 0) (.slice none 0 0) ∧ Below w.heap.size w (putV w3 R 4 S (.slice none 0 0) (.slice none 0 0)) ∧ (putV w3 R 4 S (.slice none 0 0) (.slice none 0 0)).heap[R]? = some (.cells #[.int .i64 4, .string (bs S), (.slice none 0 0), (.slice none 0 0)] 36) := HPN.out
          rw [hWF] at hPN
          have HPN2 := Lib.hid hPN
          have hWF' : (((w3.setCell ⟨R, 0, none⟩ (.int .i64 4)).setCell ⟨R, 1, none⟩ (.string (bs S))).setCell ⟨R, 2, none⟩ (.slice none 0 0)).setCell ⟨R, 3, none⟩ (.slice none 0 0) = WF := hWF
          first
            | rw [hWF']
            | (have hWF2 : (((w3.setCell ⟨R, 0, none⟩ (.int .i64 4)).setCell ⟨R, 1, none⟩ (.string ⟨#[]⟩)).setCell ⟨R, 2, none⟩ (.slice none 0 0)).setCell ⟨R, 3, none⟩ (.slice none 0 0) = WF := hWF
               rw [hWF2])
          clear hWF hWF' hPN r0 r1 r2 r3 f0 f1 f2 f3 HPN
          obtain ⟨d0, d1, d2, d3, _⟩ := box4 HPN2.out.2.2
          refine bodyPost_ret (v := .tuple #[.agg #[.int .i64 4, .string (bs S), (.slice none 0 0), (.slice none 0 0)], .int .i64 0]) ?_ rfl ⟨⟨_, _, rfl, HPN2.out.1⟩, HPN2.out.2.1⟩
          simp [results, Tryz.results27, go_sem, d0, d1, d2, d3]
      · have de : (er != 0) = true := by simp [he]
        rw [if_pos he]
        · skip
          go_enter Tryz.func27, Tryz.ntmps27
          go_upto_region 1 with fail
          clear hW1 hR
          go_wp2_with fail
          refine (CU.out _).mono ?_
          rintro e w2 ⟨rfl, hb2⟩
          have HB2 := Lib.hid hb2
          clear hb2
          have HPN := Lib.hid (putNew (t := zeroT) HB1.out HRw.out HRl.out (leafV _ _ _ _) HB2.out HR1.out)
          obtain ⟨r0, r1, r2, r3, f0, f1, f2, f3⟩ := box4 ((HB2.out.block R HRl.out).trans HR1.out)
          go_wp2_with fail
          obtain ⟨WF, hWF⟩ : ∃ W, putV w2 R 0 ([] : Stp) (.slice none 0 0) (.slice none 0 0) = W := ⟨_, rfl⟩
          have hPN : VDf w.heap.size (putV w2 R 0 ([] : Stp) (.slice none 0 0) (.slice none 0 0)) (zeroT).depth (zeroT) (.slice none 0 0) (.slice none 0 0) ∧ Below w.heap.size w (putV w2 R 0 ([] : Stp) (.slice none 0 0) (.slice none 0 0)) ∧ (putV w2 R 0 ([] : Stp) (.slice none 0 0) (.slice none 0 0)).heap[R]? = some (.cells #[.int .i64 0, .string (bs ([] : Stp)), (.slice none 0 0), (.slice none 0 0)] 36) := HPN.out
          rw [hWF] at hPN
          have HPN2 := Lib.hid hPN
          have hWF' : (((w2.setCell ⟨R, 0, none⟩ (.int .i64 0)).setCell ⟨R, 1, none⟩ (.string (bs ([] : Stp)))).setCell ⟨R, 2, none⟩ (.slice none 0 0)).setCell ⟨R, 3, none⟩ (.slice none 0 0) = WF := hWF
          first
            | rw [hWF']
            | (have hWF2 : (((w2.setCell ⟨R, 0, none⟩ (.int .i64 0)).setCell ⟨R, 1, none⟩ (.string ⟨#[]⟩)).setCell ⟨R, 2, none⟩ (.slice none 0 0)).setCell ⟨R, 3, none⟩ (.slice none 0 0) = WF := hWF
               rw [hWF2])
          clear hWF hWF' hPN r0 r1 r2 r3 f0 f1 f2 f3 HPN
          obtain ⟨d0, d1, d2, d3, _⟩ := box4 HPN2.out.2.2
          refine bodyPost_ret (v := .tuple #[.agg #[.int .i64 0, .string (bs ([] : Stp)), (.slice none 0 0), (.slice none 0 0)], .int .i64 er]) ?_ rfl ⟨⟨_, _, rfl, HPN2.out.1⟩, HPN2.out.2.1⟩
          simp [results, Tryz.results27, go_sem, d0, d1, d2, d3]
    have d34 : ((c.toNat : Int) == 34) = false := by rw [show (34 : Int) = ((34 : UInt8).toNat : Int) from rfl, q34]; exact beq_eq_false_iff_ne.2 hq
    by_cases hq2 : c = 39
    · rw [if_pos (.inr hq2)]
      have hS : textY t = singleY t := by unfold textY; rw [hhd, hq2, if_pos rfl]
      rw [hS]
      have hbd := sq0_bdR t
      have her := sqL_err t 0
      unfold singleY
      obtain ⟨⟨S, k, er⟩, hU⟩ : ∃ U, sqL t 0 = U := ⟨_, rfl⟩
      rw [hU] at CS hbd her
      rw [hU]
      simp only [] at hbd her ⊢
      have d39 : ((c.toNat : Int) == 39) = true := by rw [hq2]; rfl
      clear hS hU CB CJ CU q91 q123 hq hq2 q34 q39
      rcases her with rfl | rfl
      · by_cases hk : k = (t.length : Int)
        · have h1 : (if (0 : Int) ≠ 0 ∨ k ≠ (t.length : Int) then (([] : Stp), (2 : Int)) else (S, 0)) = (S, 0) := if_neg (by rintro (h | h); exact h rfl; exact h hk)
          rw [h1]
          simp only []
          rw [if_neg (by simp)]
          clear h1
          have CO := Lib.hid (COf.out S)
          have dk : decide (k < (t.length : Int)) = false := decide_eq_false (by omega)
          go_enter Tryz.func27, Tryz.ntmps27
          go_upto_region 1 with fail
          clear hW1 hR
          go_wp2_with fail
          refine (CS.out _).mono ?_
          rintro e w2 ⟨rfl, rfl⟩
          have HB2 := Lib.hid (Below.refl W1.heap.size W1)
          go_wp2_with fail
          refine (CO.out _).mono ?_
          rintro e w3 ⟨rfl, hb3⟩
          have HB3 := Lib.hid (below_of_new HB2.out hb3)
          clear hb3
          have HPN := Lib.hid (putNew (t := strT S) HB1.out HRw.out HRl.out (leafV _ _ _ _) HB3.out HR1.out)
          obtain ⟨r0, r1, r2, r3, f0, f1, f2, f3⟩ := box4 ((HB3.out.block R HRl.out).trans HR1.out)
          go_wp2_with fail
          obtain ⟨WF, hWF⟩ : ∃ W, putV w3 R 4 S (.slice none 0 0) (.slice none 0 0) = W := ⟨_, rfl⟩
          have hPN : VDf w.heap.size (putV w3 R 4 S (.slice none 0 0) (.slice none 0 0)) (strT S).depth (strT S) (.slice none 0 0) (.slice none 0 0) ∧ Below w.heap.size w (putV w3 R 4 S (.slice none 0 0) (.slice none 0 0)) ∧ (putV w3 R 4 S (.slice none 0 0) (.slice none 0 0)).heap[R]? = some (.cells #[.int .i64 4, .string (bs S), (.slice none 0 0), (.slice none 0 0)] 36) := HPN.out
          rw [hWF] at hPN
          have HPN2 := Lib.hid hPN
          have hWF' : (((w3.setCell ⟨R, 0, none⟩ (.int .i64 4)).setCell ⟨R, 1, none⟩ (.string (bs S))).setCell ⟨R, 2, none⟩ (.slice none 0 0)).setCell ⟨R, 3, none⟩ (.slice none 0 0) = WF := hWF
          first
            | rw [hWF']
            | (have hWF2 : (((w3.setCell ⟨R, 0, none⟩ (.int .i64 4)).setCell ⟨R, 1, none⟩ (.string ⟨#[]⟩)).setCell ⟨R, 2, none⟩ (.slice none 0 0)).setCell ⟨R, 3, none⟩ (.slice none 0 0) = WF := hWF
               rw [hWF2])
          clear hWF hWF' hPN r0 r1 r2 r3 f0 f1 f2 f3 HPN
          obtain ⟨d0, d1, d2, d3, _⟩ := box4 HPN2.out.2.2
          refine bodyPost_ret (v := .tuple #[.agg #[.int .i64 4, .string (bs S), (.slice none 0 0), (.slice none 0 0)], .int .i64 0]) ?_ rfl ⟨⟨_, _, rfl, HPN2.out.1⟩, HPN2.out.2.1⟩
          simp [results, Tryz.results27, go_sem, d0, d1, d2, d3]
        · have h1 : (if (0 : Int) ≠ 0 ∨ k ≠ (t.length : Int) then (([] : Stp), (2 : Int)) else (S, 0)) = ([], 2) := if_pos (.inr hk)
          rw [h1]
          simp only []
          rw [if_pos (by decide)]
          clear h1
          have dk : decide (k < (t.length : Int)) = true := decide_eq_true (by omega)
          go_enter Tryz.func27, Tryz.ntmps27
          go_upto_region 1 with fail
          clear hW1 hR
          go_wp2_with fail
          refine (CS.out _).mono ?_
          rintro e w2 ⟨rfl, rfl⟩
          have HB2 := Lib.hid (Below.refl W1.heap.size W1)
          have HPN := Lib.hid (putNew (t := zeroT) HB1.out HRw.out HRl.out (leafV _ _ _ _) HB2.out HR1.out)
          obtain ⟨r0, r1, r2, r3, f0, f1, f2, f3⟩ := box4 ((HB2.out.block R HRl.out).trans HR1.out)
          go_wp2_with fail
          obtain ⟨WF, hWF⟩ : ∃ W, putV W1 R 0 ([] : Stp) (.slice none 0 0) (.slice none 0 0) = W := ⟨_, rfl⟩
          have hPN : VDf w.heap.size (putV W1 R 0 ([] : Stp) (.slice none 0 0) (.slice none 0 0)) (zeroT).depth (zeroT) (.slice none 0 0) (.slice none 0 0) ∧ Below w.heap.size w (putV W1 R 0 ([] : Stp) (.slice none 0 0) (.slice none 0 0)) ∧ (putV W1 R 0 ([] : Stp) (.slice none 0 0) (.slice none 0 0)).heap[R]? = some (.cells #[.int .i64 0, .string (bs ([] : Stp)), (.slice none 0 0), (.slice none 0 0)] 36) := HPN.out
          rw [hWF] at hPN
          have HPN2 := Lib.hid hPN
          have hWF' : (((W1.setCell ⟨R, 0, none⟩ (.int .i64 0)).setCell ⟨R, 1, none⟩ (.string (bs ([] : Stp)))).setCell ⟨R, 2, none⟩ (.slice none 0 0)).setCell ⟨R, 3, none⟩ (.slice none 0 0) = WF := hWF
          first
            | rw [hWF']
            | (have hWF2 : (((W1.setCell ⟨R, 0, none⟩ (.int .i64 0)).setCell ⟨R, 1, none⟩ (.string ⟨#[]⟩)).setCell ⟨R, 2, none⟩ (.slice none 0 0)).setCell ⟨R, 3, none⟩ (.slice none 0 0) = WF := hWF
               rw [hWF2])
          clear hWF hWF' hPN r0 r1 r2 r3 f0 f1 f2 f3 HPN
          obtain ⟨d0, d1, d2, d3, _⟩ := box4 HPN2.out.2.2
          refine bodyPost_ret (v := .tuple #[.agg #[.int .i64 0, .string (bs ([] : Stp)), (.slice none 0 0), (.slice none 0 0)], .int .i64 2]) ?_ rfl ⟨⟨_, _, rfl, HPN2.out.1⟩, HPN2.out.2.1⟩
          simp [results, Tryz.results27, go_sem, d0, d1, d2, d3]
      · have h1 : (if (2 : Int) ≠ 0 ∨ k ≠ (t.length : Int) then (([] : Stp), (2 : Int)) else (S, 0)) = ([], 2) := if_pos (.inl (by decide))
        rw [h1]
        simp only []
        rw [if_pos (by decide)]
        clear h1
        · skip
          go_enter Tryz.func27, Tryz.ntmps27
          go_upto_region 1 with fail
          clear hW1 hR
          go_wp2_with fail
          refine (CS.out _).mono ?_
          rintro e w2 ⟨rfl, rfl⟩
          have HB2 := Lib.hid (Below.refl W1.heap.size W1)
          have HPN := Lib.hid (putNew (t := zeroT) HB1.out HRw.out HRl.out (leafV _ _ _ _) HB2.out HR1.out)
          obtain ⟨r0, r1, r2, r3, f0, f1, f2, f3⟩ := box4 ((HB2.out.block R HRl.out).trans HR1.out)
          go_wp2_with fail
          obtain ⟨WF, hWF⟩ : ∃ W, putV W1 R 0 ([] : Stp) (.slice none 0 0) (.slice none 0 0) = W := ⟨_, rfl⟩
          have hPN : VDf w.heap.size (putV W1 R 0 ([] : Stp) (.slice none 0 0) (.slice none 0 0)) (zeroT).depth (zeroT) (.slice none 0 0) (.slice none 0 0) ∧ Below w.heap.size w (putV W1 R 0 ([] : Stp) (.slice none 0 0) (.slice none 0 0)) ∧ (putV W1 R 0 ([] : Stp) (.slice none 0 0) (.slice none 0 0)).heap[R]? = some (.cells #[.int .i64 0, .string (bs ([] : Stp)), (.slice none 0 0), (.slice none 0 0)] 36) := HPN.out
          rw [hWF] at hPN
          have HPN2 := Lib.hid hPN
          have hWF' : (((W1.setCell ⟨R, 0, none⟩ (.int .i64 0)).setCell ⟨R, 1, none⟩ (.string (bs ([] : Stp)))).setCell ⟨R, 2, none⟩ (.slice none 0 0)).setCell ⟨R, 3, none⟩ (.slice none 0 0) = WF := hWF
          first
            | rw [hWF']
            | (have hWF2 : (((W1.setCell ⟨R, 0, none⟩ (.int .i64 0)).setCell ⟨R, 1, none⟩ (.string ⟨#[]⟩)).setCell ⟨R, 2, none⟩ (.slice none 0 0)).setCell ⟨R, 3, none⟩ (.slice none 0 0) = WF := hWF
               rw [hWF2])
          clear hWF hWF' hPN r0 r1 r2 r3 f0 f1 f2 f3 HPN
          obtain ⟨d0, d1, d2, d3, _⟩ := box4 HPN2.out.2.2
          refine bodyPost_ret (v := .tuple #[.agg #[.int .i64 0, .string (bs ([] : Stp)), (.slice none 0 0), (.slice none 0 0)], .int .i64 2]) ?_ rfl ⟨⟨_, _, rfl, HPN2.out.1⟩, HPN2.out.2.1⟩
          simp [results, Tryz.results27, go_sem, d0, d1, d2, d3]
    have hq : ¬ (c = 34 ∨ c = 39) := by rintro (h | h); exact hq h; exact hq2 h
    clear hq2 d34
    rw [if_neg hq]
    have d34 : ((c.toNat : Int) == 34) = false := by rw [show (34 : Int) = ((34 : UInt8).toNat : Int) from rfl, q34]; exact beq_eq_false_iff_ne.2 (fun e => hq (.inl e))
    have d39 : ((c.toNat : Int) == 39) = false := by rw [show (39 : Int) = ((39 : UInt8).toNat : Int) from rfl, q39]; exact beq_eq_false_iff_ne.2 (fun e => hq (.inr e))
    clear hq q34 q39 CU CS COf
    by_cases hq : c = 91 ∨ c = 123
    · rw [if_pos hq]
      have hcc : ((c.toNat : Int) == 91) = true ∨ (((c.toNat : Int) == 91) = false ∧ ((c.toNat : Int) == 123) = true) := by
        rcases hq with rfl | rfl
        · exact .inl rfl
        · exact .inr ⟨rfl, rfl⟩
      clear hq q91 q123 CB CRes
      obtain ⟨⟨T, at_, er⟩, hT⟩ : ∃ S, readJ t = S := ⟨_, rfl⟩
      rw [hT] at CJ
      rw [hT]
      simp only [] at CJ ⊢
      clear hT
      rcases hcc with d91 | ⟨d91, d123⟩
      all_goals
        go_enter Tryz.func27, Tryz.ntmps27
        go_upto_region 1 with fail
        clear hW1 hR
        go_wp2_with fail
        refine (CJ.out _ (Below.refl _ _)).mono ?_
        rintro e w2 ⟨⟨kv, iv, rfl, hv2⟩, hb2⟩
        obtain ⟨pk, ck, px, cx, rfl, rfl⟩ := hv2.form
        have hba := below_alloc1 w2 (.cells #[.int .i64 T.kind, .string (bs T.text), .slice pk T.keys.length ck, .slice px T.items.length cx] 36)
        obtain ⟨w3, hw3⟩ : ∃ w3, w2.alloc (.cells #[.int .i64 T.kind, .string (bs T.text), .slice pk T.keys.length ck, .slice px T.items.length cx] 36) = w3 := ⟨_, rfl⟩
        have hz : w3.heap[w2.heap.size]? = some (.cells #[.int .i64 T.kind, .string (bs T.text), .slice pk T.keys.length ck, .slice px T.items.length cx] 36) := by rw [← hw3]; exact heap_alloc_new w2 _
        rw [hw3] at hba
        have HB3 := Lib.hid (below_of_new hb2 hba)
        have HV3 := Lib.hid (hv2.keep hba)
        obtain ⟨z0, z1, z2, z3, _⟩ := box4 hz
        have hRZ : R < w2.heap.size := Nat.lt_of_lt_of_le HRl.out hb2.size
        have hRZ2 : R ≠ w2.heap.size := by omega
        unfold vv
        clear hv2 hb2 hba hz
        have HPN := Lib.hid (putNew (t := T) HB1.out HRw.out HRl.out HV3.out HB3.out HR1.out)
        obtain ⟨r0, r1, r2, r3, f0, f1, f2, f3⟩ := box4 ((HB3.out.block R HRl.out).trans HR1.out)
        go_wp2_with fail
        obtain ⟨WF, hWF⟩ : ∃ W, putV w3 R T.kind T.text (.slice pk T.keys.length ck) (.slice px T.items.length cx) = W := ⟨_, rfl⟩
        have hPN : VDf w.heap.size (putV w3 R T.kind T.text (.slice pk T.keys.length ck) (.slice px T.items.length cx)) (T).depth (T) (.slice pk T.keys.length ck) (.slice px T.items.length cx) ∧ Below w.heap.size w (putV w3 R T.kind T.text (.slice pk T.keys.length ck) (.slice px T.items.length cx)) ∧ (putV w3 R T.kind T.text (.slice pk T.keys.length ck) (.slice px T.items.length cx)).heap[R]? = some (.cells #[.int .i64 T.kind, .string (bs T.text), (.slice pk T.keys.length ck), (.slice px T.items.length cx)] 36) := HPN.out
        rw [hWF] at hPN
        have HPN2 := Lib.hid hPN
        have hWF' : (((w3.setCell ⟨R, 0, none⟩ (.int .i64 T.kind)).setCell ⟨R, 1, none⟩ (.string (bs T.text))).setCell ⟨R, 2, none⟩ (.slice pk T.keys.length ck)).setCell ⟨R, 3, none⟩ (.slice px T.items.length cx) = WF := hWF
        first
          | rw [hWF']
          | (have hWF2 : (((w3.setCell ⟨R, 0, none⟩ (.int .i64 T.kind)).setCell ⟨R, 1, none⟩ (.string ⟨#[]⟩)).setCell ⟨R, 2, none⟩ (.slice pk T.keys.length ck)).setCell ⟨R, 3, none⟩ (.slice px T.items.length cx) = WF := hWF
             rw [hWF2])
        clear hWF hWF' hPN r0 r1 r2 r3 f0 f1 f2 f3 HPN
        obtain ⟨d0, d1, d2, d3, _⟩ := box4 HPN2.out.2.2
        refine bodyPost_ret (v := .tuple #[.agg #[.int .i64 T.kind, .string (bs T.text), (.slice pk T.keys.length ck), (.slice px T.items.length cx)], .int .i64 er]) ?_ rfl ⟨⟨_, _, rfl, HPN2.out.1⟩, HPN2.out.2.1⟩
        simp [results, Tryz.results27, go_sem, d0, d1, d2, d3]
    rw [if_neg hq]
    have d91 : ((c.toNat : Int) == 91) = false := by rw [show (91 : Int) = ((91 : UInt8).toNat : Int) from rfl, q91]; exact beq_eq_false_iff_ne.2 (fun e => hq (.inl e))
    have d123 : ((c.toNat : Int) == 123) = false := by rw [show (123 : Int) = ((123 : UInt8).toNat : Int) from rfl, q123]; exact beq_eq_false_iff_ne.2 (fun e => hq (.inr e))
    clear hq q91 q123 CJ
    obtain ⟨B, hB⟩ : ∃ B, bareB t = B := ⟨_, rfl⟩
    rw [hB] at CB
    rw [hB]
    clear hB
    cases B with
    | false =>
      rw [if_neg (by simp)]
      go_enter Tryz.func27, Tryz.ntmps27
      go_upto_region 1 with fail
      clear hW1 hR
      go_wp2_with fail
      refine (CB.out _ (Below.refl _ _)).mono ?_
      rintro e w2 ⟨rfl, hb2⟩
      have HB2 := Lib.hid hb2
      clear hb2
      have HPN := Lib.hid (putNew (t := zeroT) HB1.out HRw.out HRl.out (leafV _ _ _ _) HB2.out HR1.out)
      obtain ⟨r0, r1, r2, r3, f0, f1, f2, f3⟩ := box4 ((HB2.out.block R HRl.out).trans HR1.out)
      go_wp2_with fail
      obtain ⟨WF, hWF⟩ : ∃ W, putV w2 R 0 ([] : Stp) (.slice none 0 0) (.slice none 0 0) = W := ⟨_, rfl⟩
      have hPN : VDf w.heap.size (putV w2 R 0 ([] : Stp) (.slice none 0 0) (.slice none 0 0)) (zeroT).depth (zeroT) (.slice none 0 0) (.slice none 0 0) ∧ Below w.heap.size w (putV w2 R 0 ([] : Stp) (.slice none 0 0) (.slice none 0 0)) ∧ (putV w2 R 0 ([] : Stp) (.slice none 0 0) (.slice none 0 0)).heap[R]? = some (.cells #[.int .i64 0, .string (bs ([] : Stp)), (.slice none 0 0), (.slice none 0 0)] 36) := HPN.out
      rw [hWF] at hPN
      have HPN2 := Lib.hid hPN
      have hWF' : (((w2.setCell ⟨R, 0, none⟩ (.int .i64 0)).setCell ⟨R, 1, none⟩ (.string (bs ([] : Stp)))).setCell ⟨R, 2, none⟩ (.slice none 0 0)).setCell ⟨R, 3, none⟩ (.slice none 0 0) = WF := hWF
      first
        | rw [hWF']
        | (have hWF2 : (((w2.setCell ⟨R, 0, none⟩ (.int .i64 0)).setCell ⟨R, 1, none⟩ (.string ⟨#[]⟩)).setCell ⟨R, 2, none⟩ (.slice none 0 0)).setCell ⟨R, 3, none⟩ (.slice none 0 0) = WF := hWF
           rw [hWF2])
      clear hWF hWF' hPN r0 r1 r2 r3 f0 f1 f2 f3 HPN
      obtain ⟨d0, d1, d2, d3, _⟩ := box4 HPN2.out.2.2
      refine bodyPost_ret (v := .tuple #[.agg #[.int .i64 0, .string (bs ([] : Stp)), (.slice none 0 0), (.slice none 0 0)], .int .i64 2]) ?_ rfl ⟨⟨_, _, rfl, HPN2.out.1⟩, HPN2.out.2.1⟩
      simp [results, Tryz.results27, go_sem, d0, d1, d2, d3]
    | true =>
      rw [if_pos rfl]
      have CR := Lib.hid (fun w' hb => CRes.out t w' (by omega) hb)
      obtain ⟨⟨rk, rs⟩, hrs⟩ : ∃ Q, resP t = Q := ⟨_, rfl⟩
      have hrt : resT t = .mk rk rs [] [] := by unfold resT; rw [hrs]
      rw [hrs] at CR
      rw [hrt]
      clear hrs hrt CRes
      go_enter Tryz.func27, Tryz.ntmps27
      go_upto_region 1 with fail
      clear hW1 hR
      go_wp2_with fail
      refine (CB.out _ (Below.refl _ _)).mono ?_
      rintro e w2 ⟨rfl, hb2⟩
      have HB2 := Lib.hid hb2
      clear hb2
      go_wp2_with fail
      refine (CR.out _ HB2.out).mono ?_
      rintro e w3 ⟨rfl, hb3⟩
      have HB3 := Lib.hid (below_of_new HB2.out hb3)
      clear hb3
      have HPN := Lib.hid (putNew (t := VT.mk rk rs [] []) HB1.out HRw.out HRl.out (leafV _ _ _ _) HB3.out HR1.out)
      obtain ⟨r0, r1, r2, r3, f0, f1, f2, f3⟩ := box4 ((HB3.out.block R HRl.out).trans HR1.out)
      go_wp2_with fail
      obtain ⟨WF, hWF⟩ : ∃ W, putV w3 R rk rs (.slice none 0 0) (.slice none 0 0) = W := ⟨_, rfl⟩
      have hPN : VDf w.heap.size (putV w3 R rk rs (.slice none 0 0) (.slice none 0 0)) (VT.mk rk rs [] []).depth (VT.mk rk rs [] []) (.slice none 0 0) (.slice none 0 0) ∧ Below w.heap.size w (putV w3 R rk rs (.slice none 0 0) (.slice none 0 0)) ∧ (putV w3 R rk rs (.slice none 0 0) (.slice none 0 0)).heap[R]? = some (.cells #[.int .i64 rk, .string (bs rs), (.slice none 0 0), (.slice none 0 0)] 36) := HPN.out
      rw [hWF] at hPN
      have HPN2 := Lib.hid hPN
      have hWF' : (((w3.setCell ⟨R, 0, none⟩ (.int .i64 rk)).setCell ⟨R, 1, none⟩ (.string (bs rs))).setCell ⟨R, 2, none⟩ (.slice none 0 0)).setCell ⟨R, 3, none⟩ (.slice none 0 0) = WF := hWF
      first
        | rw [hWF']
        | (have hWF2 : (((w3.setCell ⟨R, 0, none⟩ (.int .i64 rk)).setCell ⟨R, 1, none⟩ (.string ⟨#[]⟩)).setCell ⟨R, 2, none⟩ (.slice none 0 0)).setCell ⟨R, 3, none⟩ (.slice none 0 0) = WF := hWF
           rw [hWF2])
      clear hWF hWF' hPN r0 r1 r2 r3 f0 f1 f2 f3 HPN
      obtain ⟨d0, d1, d2, d3, _⟩ := box4 HPN2.out.2.2
      refine bodyPost_ret (v := .tuple #[.agg #[.int .i64 rk, .string (bs rs), (.slice none 0 0), (.slice none 0 0)], .int .i64 0]) ?_ rfl ⟨⟨_, _, rfl, HPN2.out.1⟩, HPN2.out.2.1⟩
      simp [results, Tryz.results27, go_sem, d0, d1, d2, d3]
theorem readL_no (l : Stp) (a : Int) (h : (readL l a).2.2 ≠ 0) : (readL l a).1 = [] := by
 unfold readL at h ⊢
 split
 ·rename_i hc
  rw [if_pos hc] at h
  rcases (read_bd (l.length + 1) (l.drop (a.toNat + 1)) (a.toNat + 1) []).2 with h2 | h2
  ·exact absurd h2 h
  ·exact h2.2
 ·rfl
theorem text_no (t : Stp) (h : (textY t).2 ≠ 0) : (textY t).1 = [] := by
 unfold textY at h ⊢
 split
 ·rename_i hc
  rw [if_pos hc] at h
  unfold singleY at h ⊢
  split
  ·rfl
  ·rename_i hc2
   rw [if_neg hc2] at h
   exact absurd rfl h
 ·rename_i hc
  rw [if_neg hc] at h
  show (unqL t).1 = []
  change (unqL t).2.2 ≠ 0 at h
  unfold unqL at h ⊢
  split
  ·rfl
  ·rename_i hc2
   rw [if_neg hc2] at h
   exact readL_no t 0 h
theorem readY_quoted (t : Stp) (h : t.head? = some 34 ∨ t.head? = some 39) : (readY t).1.text = (textY t).1 ∧ (readY t).2 = (textY t).2 := by
 cases t with
 | nil => simp at h
 | cons c r =>
  have hc : c = 34 ∨ c = 39 := by simpa using h
  unfold readY
  simp only []
  rw [if_pos hc]
  by_cases he : (textY (c :: r)).2 = 0
  ·rw [if_neg (by simp [he])]
   exact ⟨rfl, he.symm⟩
  ·rw [if_pos he]
   exact ⟨(text_no _ he).symm, rfl⟩
set_option maxRecDepth 100000 in
set_option maxHeartbeats 2000000 in
theorem rkey11_of (t : Stp) (w : World) (hs : t.length ≤ 1073741824) (hR : ∀ w', Below w.heap.size w w' → Calls Tryz.prog 27 #[.string (bs t)] w' (NewE2 (readY t).1 (readY t).2 w')) :
  Calls Tryz.prog 30 #[.string (bs t)] w fun e w' => e = QuotedE (keyRd t) ∧ Below w.heap.size w w' := by
 have sl := bs_size t
 cases t with
 | nil =>
  have C2 := Lib.hid (rbare_any [] w (by decide))
  have hb0 : bareB [] = false := rfl
  rw [hb0] at C2
  unfold keyRd QuotedE
  clear hR
  go_enter Tryz.func30, Tryz.ntmps30
  go_wp2_with fail
  refine C2.out.mono ?_
  rintro e w1 ⟨rfl, hb1⟩
  have HB1 := Lib.hid hb1
  clear hb1
  go_wp2_with fail
  go_ret2
  exact ⟨rfl, HB1.out⟩
 | cons c r =>
  have C1 := Lib.hid (hR w (Below.refl _ _))
  have C2 := Lib.hid (rbare_any (c :: r) w (by omega))
  have q34 := u8_eq c 34
  have q39 := u8_eq c 39
  have hrq := readY_quoted (c :: r)
  have hkr : keyRd (c :: r) = if c = 34 ∨ c = 39 then textY (c :: r) else if bareB (c :: r) then (c :: r, 0) else ([], 2) := rfl
  rw [hkr]
  obtain ⟨t, ht⟩ : ∃ t, c :: r = t := ⟨_, rfl⟩
  have hhd : t.head? = some c := by rw [← ht]; rfl
  have hlen : 0 < t.length := by rw [← ht]; simp
  have hc0 : (bs t)[0]'(by rw [bs_size]; exact hlen) = c := by
   subst ht
   rfl
  have dl : decide ((0 : Int) < (t.length : Int)) = true := decide_eq_true (by omega)
  rw [ht] at hs sl C1 C2 hrq ⊢
  obtain ⟨B, hB⟩ : ∃ B, bareB t = B := ⟨_, rfl⟩
  rw [hB] at C2
  rw [hB]
  clear ht hB hkr hR
  by_cases hq : c = 34 ∨ c = 39
  ·rw [if_pos hq]
   obtain ⟨h1, h2⟩ := hrq (by rw [hhd]; rcases hq with rfl | rfl; exact .inl rfl; exact .inr rfl)
   obtain ⟨⟨S, er⟩, hS⟩ : ∃ S, textY t = S := ⟨_, rfl⟩
   obtain ⟨⟨T, er2⟩, hT⟩ : ∃ S, readY t = S := ⟨_, rfl⟩
   rw [hS, hT] at h1 h2
   rw [hT] at C1
   rw [hS]
   simp only [] at h1 h2 C1
   subst h2
   unfold QuotedE
   have hcc : ((c.toNat : Int) == 34) = true ∨ (((c.toNat : Int) == 34) = false ∧ ((c.toNat : Int) == 39) = true) := by
    rcases hq with rfl | rfl
    ·exact .inl rfl
    ·exact .inr ⟨rfl, rfl⟩
   clear hS hT hq q34 q39 C2 hhd
   rcases hcc with d34 | ⟨d34, d39⟩
   all_goals
    go_enter Tryz.func30, Tryz.ntmps30
    go_wp2_with fail
    refine C1.out.mono ?_
    rintro e w2 ⟨⟨kv, iv, rfl, hv2⟩, hb2⟩
    obtain ⟨pk, ck, px, cx, rfl, rfl⟩ := hv2.form
    have HB2 := Lib.hid (below_of_new hb2 (below_alloc1 w2 (.cells #[.int .i64 T.kind, .string (bs T.text), .slice pk T.keys.length ck, .slice px T.items.length cx] 36)))
    rw [h1] at HB2
    unfold vv
    rw [h1]
    clear hv2 hb2
    go_wp2_with fail
    go_ret2
    exact ⟨rfl, HB2.out⟩
  have d34 : ((c.toNat : Int) == 34) = false := by rw [show (34 : Int) = ((34 : UInt8).toNat : Int) from rfl, q34]; exact beq_eq_false_iff_ne.2 (fun e => hq (.inl e))
  have d39 : ((c.toNat : Int) == 39) = false := by rw [show (39 : Int) = ((39 : UInt8).toNat : Int) from rfl, q39]; exact beq_eq_false_iff_ne.2 (fun e => hq (.inr e))
  rw [if_neg hq]
  unfold QuotedE
  clear hq q34 q39 C1 hrq hhd
  cases B with
  | true =>
   rw [if_pos rfl]
   go_enter Tryz.func30, Tryz.ntmps30
   go_wp2_with fail
   refine C2.out.mono ?_
   rintro e w1 ⟨rfl, hb1⟩
   have HB1 := Lib.hid hb1
   clear hb1
   go_wp2_with fail
   go_ret2
   exact ⟨rfl, HB1.out⟩
  | false =>
   rw [if_neg (by simp)]
   go_enter Tryz.func30, Tryz.ntmps30
   go_wp2_with fail
   refine C2.out.mono ?_
   rintro e w1 ⟨rfl, hb1⟩
   have HB1 := Lib.hid hb1
   clear hb1
   go_wp2_with fail
   go_ret2
   exact ⟨rfl, HB1.out⟩
end Go.Proofs.YtbldfpkfinpciaaGreatDoor
namespace Go.Proofs.YtbldfpkfinpciaaGreatDoor
set_option linter.unusedSimpArgs false
set_option linter.unusedVariables false
open Go.Lib hiding intOf
theorem kids_bulk {txt : Stp} {ns : List NodeD} {A lv : Nat} (hK : ∀ k, (keyV txt ns k).length ≤ A) (ih : ∀ k m, TOk ns lv k m → (nodeV txt ns lv k).bulk + (A + 1) ≤ (m - k) * (2 * A + 2)) {hi : Nat} : ∀ (l : List Nat) (a : Nat), KidsOk (TOk ns lv) l a hi →
  a ≤ hi ∧ totS (l.map (keyV txt ns)) + l.length + bulks (l.map (nodeV txt ns lv)) ≤ (hi - a) * (2 * A + 2)
 | [], a, h => by
  have e : a = hi := h
  subst e
  exact ⟨Nat.le_refl _, by simp [totS, bulks]⟩
 | x :: l, a, h => by
  obtain ⟨rfl, m, h2, h3⟩ := h
  obtain ⟨h4, h5⟩ := kids_bulk hK ih l m h3
  have h6 := ih x m h2
  have h7 := h2.lt
  have h8 := hK x
  refine ⟨by omega, ?_⟩
  rw [List.map_cons, List.map_cons, totS_cons, bulks, List.length_cons]
  have e : (hi - x) * (2 * A + 2) = (m - x) * (2 * A + 2) + (hi - m) * (2 * A + 2) := by rw [← Nat.add_mul]; congr 1; omega
  rw [e]
  omega
theorem node_bulk (txt : Stp) (ns : List NodeD) (A : Nat) (hA : ∀ kd sp, (textV kd (slT txt sp)).length ≤ A) (hK : ∀ k, (keyV txt ns k).length ≤ A) : ∀ (lv k hi : Nat), TOk ns lv k hi → (nodeV txt ns lv k).bulk + (A + 1) ≤ (hi - k) * (2 * A + 2)
 | 0, _, _, h => h.elim
 | lv + 1, k, hi, h => by
  have hlt := h.lt
  obtain ⟨x, hx, h2⟩ := h
  obtain ⟨h3, h4⟩ := kids_bulk hK (node_bulk txt ns A hA hK lv) x.kids (k + 1) h2
  have hval : nodeV txt ns (lv + 1) k = .mk (x.kind : Int) (textV x.kind (slT txt (x.sf, x.st))) (ksV txt ns x.kind x.kids) (x.kids.map (nodeV txt ns lv)) := by rw [nodeV, hx]; rfl
  rw [hval, VT.bulk]
  have h5 := hA x.kind (x.sf, x.st)
  have h6 : totS (ksV txt ns x.kind x.kids) + (ksV txt ns x.kind x.kids).length ≤ totS (x.kids.map (keyV txt ns)) + x.kids.length := by
   unfold ksV
   split
   ·rw [List.length_map]
    exact Nat.le_refl _
   ·simp [totS]
  have e : (hi - k) * (2 * A + 2) = (hi - (k + 1)) * (2 * A + 2) + (2 * A + 2) := by
   rw [show hi - k = (hi - (k + 1)) + 1 by omega, Nat.add_mul, Nat.one_mul]
  rw [e]
  omega
theorem textL_len2 (n : Num) (h : n.dig.length ≤ 1000) (he : -1000000 ≤ n.exp ∧ n.exp ≤ 1000000) : (textL n).length ≤ 1100 := by
 have hi := itoa_len n.exp (by omega)
 unfold textL
 split
 ·simp
 ·split
  ·simp
  ·split <;> split <;> simp <;> omega
theorem parse_text_len (s : Stp) (h : (parseL s).2 = 0) : (textL (parseL s).1).length ≤ 1100 := by
 have hr := rightB_bd (parseL_right (l := s) (n := (parseL s).1) (Prod.ext rfl h))
 exact textL_len2 _ hr.1 hr.2
theorem resP_len (s : Stp) : (resP s).2.length ≤ s.length + 1100 := by
 unfold resP
 split
 ·exact Nat.zero_le _
 ·split
  ·exact Nat.le_add_right _ _
  ·split
   ·rename_i h
    have := parse_text_len s h
    show (textL (parseL s).1).length ≤ _
    omega
   ·exact Nat.le_add_right _ _
theorem readR_len2 : ∀ (f : Nat) (l : List UInt8) (i : Nat) (acc : List UInt8), (readGo f l i acc).1.length ≤ acc.length + 4 * l.length
 | 0, _, _, _ => by simp [readGo]
 | _ + 1, [], _, _ => by simp [readGo]
 | f + 1, c :: r, i, acc => by
  unfold readGo
  split
  ·simp
  ·split
   ·simp
   ·rename_i h
    have hp := partL_bd (c :: r) (List.cons_ne_nil _ _)
    obtain ⟨P, hP⟩ : ∃ P, partL (c :: r) = P := ⟨_, rfl⟩
    rw [hP] at hp h ⊢
    have := readR_len2 f ((c :: r).drop P.2.toNat) (i + P.2.toNat) (acc ++ encodeRune P.1)
    have h4 := Lib.runeCells_le P.1
    rw [Lib.runeCells_length] at h4
    rw [List.length_drop, List.length_append] at this
    omega
theorem unqL_len2 (l : List UInt8) : (unqL l).1.length ≤ 4 * (l.length - 1) := by
 have h : (readL l 0).1.length ≤ 4 * (l.length - 1) := by
  unfold readL
  split
  ·have := readR_len2 (l.length + 1) (l.drop ((0 : Int).toNat + 1)) ((0 : Int).toNat + 1) []
   rw [List.length_drop] at this
   simp only [List.length_nil] at this
   have e0 : (0 : Int).toNat = 0 := rfl
   rw [e0] at this
   rw [e0]
   omega
  ·simp
 unfold unqL
 split
 ·simp
 ·exact h
theorem parse_nought (s : Stp) (he : (parseL s).2 ≠ 0) : (parseL s).1 = nought := by
 unfold parseL at he ⊢
 cases hl : litOf s with
 | none => rfl
 | some x =>
  rw [hl] at he
  simp only [] at he ⊢
  obtain ⟨q, hq⟩ : ∃ q, parseLit x = q := ⟨_, rfl⟩
  rw [hq] at he ⊢
  unfold parseLit at hq
  simp only [] at hq
  (repeat' split at hq) <;> subst hq <;> first | rfl | exact absurd rfl he
theorem textV_len (txt : Stp) (ht : txt.length ≤ 2048) (kd : Nat) (sp : Sp) : (textV kd (slT txt sp)).length ≤ 8188 := by
 have hl := slT_len txt sp
 unfold textV
 split
 ·omega
 ·split
  ·by_cases he : (parseL (slT txt sp)).2 = 0
   ·have := parse_text_len (slT txt sp) he
    omega
   ·have hn : (parseL (slT txt sp)).1.dig.length ≤ 1000 := parse_dig2 _
    have hz : (parseL (slT txt sp)).1 = nought := parse_nought _ he
    rw [hz]
    decide +kernel
  ·split
   ·have := unqL_len2 (slT txt sp)
    omega
   ·simp
theorem keyV_len (txt : Stp) (ns : List NodeD) (ht : txt.length ≤ 2048) (k : Nat) : (keyV txt ns k).length ≤ 8188 := by
 unfold keyV
 split
 ·have := unqL_len2 (slT txt (by assumption : NodeD).key)
  have h2 := slT_len txt (by assumption : NodeD).key
  omega
 ·simp
theorem readY_bulk (t : Stp) (ht : t.length ≤ 2048) (hr : ∀ s : Stp, s.length ≤ 2048 → (resT s).bulk ≤ 1073741824) : (readJ t).1.bulk ≤ 1073741824 := by
 unfold readJ
 by_cases he : (parseJ t).2.2 = 0
 ·rw [if_neg (by simp [he])]
  obtain ⟨⟨ns, at_, er⟩, hP⟩ : ∃ P, parseJ t = P := ⟨_, rfl⟩
  rw [hP] at he
  change er = 0 at he
  subst he
  have hT := parse_tree hP
  have hN := parse_few t
  rw [hP] at hN ⊢
  simp only [] at hN ⊢
  have := node_bulk t ns 8188 (textV_len t ht) (keyV_len t ns ht) 32 0 ns.length hT
  have h2 : (ns.length - 0) * (2 * 8188 + 2) ≤ 65536 * 16378 := Nat.mul_le_mul (by omega) (by omega)
  omega
 ·rw [if_pos he]
  show zeroT.bulk ≤ _
  decide +kernel
end Go.Proofs.YtbldfpkfinpciaaGreatDoor
namespace Go.Proofs.YtbldfpkfinpciaaGreatDoor
set_option linter.unusedSimpArgs false
set_option linter.unusedVariables false
open Go.RowKit Go.Maps Go.WideMaps
open Go.Lib hiding intOf
def simV (v v' : Value) : Prop := v' = v ∨ (∃ s s', v = .string s ∧ v' = .string s') ∨ ∃ k k', v = .int .i64 k ∧ v' = .int .i64 k'
theorem simV.trans {a b c : Value} (h : simV a b) (h2 : simV b c) : simV a c := by
 rcases h with rfl | ⟨s, s', rfl, rfl⟩ | ⟨k, k', rfl, rfl⟩
 ·exact h2
 ·rcases h2 with rfl | ⟨t, t', e, rfl⟩ | ⟨t, t', e, _⟩
  ·exact .inr (.inl ⟨_, _, rfl, rfl⟩)
  ·exact .inr (.inl ⟨_, _, rfl, rfl⟩)
  ·cases e
 ·rcases h2 with rfl | ⟨t, t', e, rfl⟩ | ⟨t, t', e, rfl⟩
  ·exact .inr (.inr ⟨_, _, rfl, rfl⟩)
  ·cases e
  ·exact .inr (.inr ⟨_, _, rfl, rfl⟩)
theorem simV.slice {p : Option Addr} {n c : Nat} {v : Value} (h : simV (.slice p n c) v) : v = .slice p n c := by
 rcases h with h | ⟨s, s', e, _⟩ | ⟨k, k', e, _⟩
 ·exact h
 ·cases e
 ·cases e
theorem simV.text {s : ByteArray} {v : Value} (h : simV (.string s) v) : ∃ s', v = .string s' := by
 rcases h with h | ⟨s, s', _, h⟩ | ⟨k, k', e, _⟩
 ·exact ⟨_, h⟩
 ·exact ⟨_, h⟩
 ·cases e
theorem simV.num {k : Int} {v : Value} (h : simV (.int .i64 k) v) : ∃ k', v = .int .i64 k' := by
 rcases h with h | ⟨s, s', e, h⟩ | ⟨k, k', _, h⟩
 ·exact ⟨_, h⟩
 ·cases e
 ·exact ⟨_, h⟩
structure Sp6 (B : Nat) (w w' : World) : Prop where
 bel : Below B w w'
 blk : ∀ (g : Nat) (cur : Array Value) (T : TypeId), w.heap[g]? = some (Obj.cells cur T (0, 0)) → ∃ cur' : Array Value, w'.heap[g]? = some (Obj.cells cur' T (0, 0)) ∧ ∀ (i : Nat) (v : Value), cur[i]? = some v → ∃ v', cur'[i]? = some v' ∧ simV v v'
theorem Sp6.refl (B : Nat) (w : World) : Sp6 B w w := ⟨Below.refl _ _, fun g cur T h => ⟨cur, h, fun i v hv => ⟨v, hv, .inl rfl⟩⟩⟩
theorem Sp6.trans {B : Nat} {a b c : World} (h : Sp6 B a b) (h2 : Sp6 B b c) : Sp6 B a c := ⟨h.bel.trans h2.bel, fun g cur T e => by
 obtain ⟨c1, e1, f1⟩ := h.blk g cur T e
 obtain ⟨c2, e2, f2⟩ := h2.blk g c1 T e1
 refine ⟨c2, e2, fun i v hv => ?_⟩
 obtain ⟨v1, g1, g2⟩ := f1 i v hv
 obtain ⟨v2, g3, g4⟩ := f2 i v1 g1
 exact ⟨v2, g3, g2.trans g4⟩⟩
theorem Sp6.of_below {B : Nat} {w w' : World} (hb : Below w.heap.size w w') (hB : B ≤ w.heap.size) : Sp6 B w w' := ⟨hb.mono hB, fun g cur T e => ⟨cur, (hb.block g (cell_it e)).trans e, fun i v hv => ⟨v, hv, .inl rfl⟩⟩⟩
theorem Sp6.set {B : Nat} {w : World} {g i : Nat} {cur : Array Value} {T : TypeId} {v u : Value} (hg : w.heap[g]? = some (.cells cur T (0, 0))) (hi : cur[i]? = some v) (hu : simV v u) (hB : B ≤ g) : Sp6 B w (w.setCell ⟨g, i, none⟩ u) :=
 ⟨(Below.refl B w).setCell (p := ⟨g, i, none⟩) hB u, fun q c2 T2 e => by
  by_cases hq : q = g
  ·subst hq
   rw [hg] at e
   injection e with e
   injection e with e1 e2
   subst e1 e2
   refine ⟨_, box_setT hg i u, fun j x hx => ?_⟩
   rw [Array.getElem?_setIfInBounds]
   by_cases hj : i = j
   ·subst hj
    rw [hi] at hx
    injection hx with hx
    subst hx
    have hl := (Array.getElem?_eq_some_iff.1 hi).1
    exact ⟨u, by rw [if_pos rfl, if_pos hl], hu⟩
   ·exact ⟨x, by rw [if_neg hj]; exact hx, .inl rfl⟩
  ·exact ⟨c2, (Below.heap_setCell w ⟨g, i, none⟩ u q hq).trans e, fun j x hx => ⟨x, hx, .inl rfl⟩⟩⟩
def KsS (B : Nat) (w : World) (v : Value) : Prop := ∃ p n c, v = .slice p n c ∧ n ≤ 1073741824 ∧ (n = 0 ∨ ∃ (g o : Nat) (cur : Array Value) (T : TypeId), p = some ⟨g, o, none⟩ ∧ B ≤ g ∧ w.heap[g]? = some (Obj.cells cur T (0, 0)) ∧ ∀ j : Nat, j < n → ∃ s, cur[o + j]? = some (.string s))
def Shp (B : Nat) (w : World) : Nat → Value → Value → Prop
 | 0, _, _ => False
 | m + 1, kv, iv => KsS B w kv ∧ ∃ p n c, iv = .slice p n c ∧ n ≤ 1073741824 ∧ (n = 0 ∨ ∃ (g o : Nat) (cur : Array Value) (T : TypeId), p = some ⟨g, o, none⟩ ∧ B ≤ g ∧ w.heap[g]? = some (Obj.cells cur T (0, 0)) ∧ ∀ j : Nat, j < n → ∃ (k : Int) (s : ByteArray) (kv' iv' : Value), cur[o + j * 4]? = some (.int .i64 k) ∧ cur[o + j * 4 + 1]? = some (.string s) ∧ cur[o + j * 4 + 2]? = some kv' ∧ cur[o + j * 4 + 3]? = some iv' ∧ Shp B w m kv' iv')
theorem KsS.keep {B : Nat} {w w' : World} {v : Value} (h : KsS B w v) (hs : Sp6 B w w') : KsS B w' v := by
 obtain ⟨p, n, c, rfl, hn, h⟩ := h
 refine ⟨p, n, c, rfl, hn, ?_⟩
 rcases h with h | ⟨g, o, cur, T, rfl, hB, hg, h⟩
 ·exact .inl h
 ·obtain ⟨c2, e2, f2⟩ := hs.blk g cur T hg
  refine .inr ⟨g, o, c2, T, rfl, hB, e2, fun j hj => ?_⟩
  obtain ⟨s, hs⟩ := h j hj
  obtain ⟨v', g1, g2⟩ := f2 _ _ hs
  obtain ⟨s', rfl⟩ := g2.text
  exact ⟨s', g1⟩
theorem KsS.form {B : Nat} {w : World} {v : Value} (h : KsS B w v) : ∃ p n c, v = .slice p n c := by
 obtain ⟨p, n, c, e, _⟩ := h; exact ⟨p, n, c, e⟩
theorem Shp.form {B : Nat} {w : World} : ∀ {m : Nat} {kv iv : Value}, Shp B w m kv iv → (∃ p n c, kv = .slice p n c) ∧ ∃ p n c, iv = .slice p n c
 | 0, _, _, h => h.elim
 | m + 1, kv, iv, h => ⟨h.1.form, by obtain ⟨_, p, n, c, e, _⟩ := h; exact ⟨p, n, c, e⟩⟩
theorem Shp.keep {B : Nat} {w w' : World} (hs : Sp6 B w w') : ∀ {m : Nat} {kv iv : Value}, Shp B w m kv iv → Shp B w' m kv iv
 | 0, _, _, h => h
 | m + 1, kv, iv, h => by
  obtain ⟨h1, p, n, c, rfl, hn, h⟩ := h
  refine ⟨h1.keep hs, p, n, c, rfl, hn, ?_⟩
  rcases h with h | ⟨g, o, cur, T, rfl, hB, hg, h⟩
  ·exact .inl h
  ·obtain ⟨c2, e2, f2⟩ := hs.blk g cur T hg
   refine .inr ⟨g, o, c2, T, rfl, hB, e2, fun j hj => ?_⟩
   obtain ⟨k, s, kv', iv', a1, a2, a3, a4, a5⟩ := h j hj
   obtain ⟨v1, b1, d1⟩ := f2 _ _ a1
   obtain ⟨v2, b2, d2⟩ := f2 _ _ a2
   obtain ⟨v3, b3, d3⟩ := f2 _ _ a3
   obtain ⟨v4, b4, d4⟩ := f2 _ _ a4
   obtain ⟨k', rfl⟩ := d1.num
   obtain ⟨s', rfl⟩ := d2.text
   obtain ⟨⟨p1, n1, c1, rfl⟩, p2, n2, c2', rfl⟩ := a5.form
   obtain rfl := d3.slice
   obtain rfl := d4.slice
   exact ⟨k', s', _, _, b1, b2, b3, b4, Shp.keep hs a5⟩
theorem cells_of {w : World} {g i : Nat} {cur : Array Value} {T : TypeId} {v : Value} (hg : w.heap[g]? = some (.cells cur T (0, 0))) (hc : cur[i]? = some v) : w.cell? ⟨g, i, none⟩ = some v ∧ w.frozen? ⟨g, i, none⟩ = false :=
 ⟨by rw [node_box hg]; exact hc, by simp [World.frozen?, hg]⟩
set_option maxRecDepth 100000 in
set_option maxHeartbeats 2000000 in
theorem vspoil_any (B : Nat) : ∀ (m : Nat) (k : Int) (s : ByteArray) (kv iv : Value) (w : World), Shp B w m kv iv → B ≤ w.heap.size →
  Calls Tryz.prog 28 #[.agg #[.int .i64 k, .string s, kv, iv]] w fun e w' => e = .returned (.tuple #[]) ∧ Sp6 B w w'
 | 0, _, _, _, _, _, h, _ => h.elim
 | m + 1, k, s, kv, iv, w, h, hB => by
  have IH := Lib.hid (vspoil_any B m)
  obtain ⟨⟨pk, nk, ck, rfl, hnk, hks⟩, pi, ni, ci, rfl, hni, his⟩ := id h
  have H := Lib.hid h
  obtain ⟨X, hX⟩ : ∃ X, w.heap.size = X := ⟨_, rfl⟩
  obtain ⟨W1, hW1⟩ : ∃ W, w.alloc (.cells #[.int .i64 k, .string s, .slice pk nk ck, .slice pi ni ci] 36) = W := ⟨_, rfl⟩
  have HB1 : Hid (Sp6 B w W1) := Lib.hid (by rw [← hW1]; exact Sp6.of_below (below_alloc1 _ _) hB)
  have HX1 : Hid (W1.heap[X]? = some (.cells #[.int .i64 k, .string s, .slice pk nk ck, .slice pi ni ci] 36 (0, 0))) := Lib.hid (by rw [← hW1, ← hX]; exact heap_alloc_new w _)
  have HXB : Hid (∀ wr, Sp6 B W1 wr → wr.cell? ⟨X, 2, none⟩ = some (.slice pk nk ck) ∧ wr.cell? ⟨X, 3, none⟩ = some (.slice pi ni ci)) := Lib.hid (fun wr hs => by
   obtain ⟨c2, e2, f2⟩ := hs.blk X _ _ HX1.out
   obtain ⟨v3, b3, d3⟩ := f2 2 _ rfl
   obtain ⟨v4, b4, d4⟩ := f2 3 _ rfl
   obtain rfl := d3.slice
   obtain rfl := d4.slice
   exact ⟨(cells_of e2 b3).1, (cells_of e2 b4).1⟩)
  have HKS : Hid (∀ wr, Sp6 B W1 wr → ∀ j : Nat, j < nk → ∃ (g o : Nat) (cur : Array Value) (T : TypeId) (s : ByteArray), pk = some ⟨g, o, none⟩ ∧ B ≤ g ∧ wr.heap[g]? = some (Obj.cells cur T (0, 0)) ∧ cur[o + j]? = some (.string s)) := Lib.hid (fun wr hs j hj => by
   obtain ⟨p', n', c', e, _, h2⟩ := (H.out.1.keep (HB1.out.trans hs))
   injection e with e1 e2 e3
   subst e1 e2 e3
   rcases h2 with h2 | ⟨g, o, cur, T, e, hg, hh, h3⟩
   ·omega
   ·obtain ⟨s, h4⟩ := h3 j hj
    exact ⟨g, o, cur, T, s, e, hg, hh, h4⟩)
  have HIS : Hid (∀ wr, Sp6 B W1 wr → ∀ j : Nat, j < ni → ∃ (g o : Nat) (cur : Array Value) (T : TypeId) (k : Int) (s : ByteArray) (kv' iv' : Value), pi = some ⟨g, o, none⟩ ∧ B ≤ g ∧ wr.heap[g]? = some (Obj.cells cur T (0, 0)) ∧ cur[o + j * 4]? = some (.int .i64 k) ∧ cur[o + j * 4 + 1]? = some (.string s) ∧ cur[o + j * 4 + 2]? = some kv' ∧ cur[o + j * 4 + 3]? = some iv' ∧ Shp B wr m kv' iv') := Lib.hid (fun wr hs j hj => by
   obtain ⟨_, p', n', c', e, _, h2⟩ := (H.out.keep (HB1.out.trans hs))
   injection e with e1 e2 e3
   subst e1 e2 e3
   rcases h2 with h2 | ⟨g, o, cur, T, e, hg, hh, h3⟩
   ·omega
   ·obtain ⟨k, s, kv', iv', h4⟩ := h3 j hj
    exact ⟨g, o, cur, T, k, s, kv', iv', e, hg, hh, h4⟩)
  have HS1 : Hid (B ≤ W1.heap.size) := Lib.hid (Nat.le_trans hB HB1.out.bel.size)
  clear h hks his hB
  go_enter Tryz.func28, Tryz.ntmps28
  go_upto_region 1 with fail
  clear hW1
  go_wp2_with fail
  go_loopw [2] (fun s2 wr => ∃ i : Nat, s2 = .int .i64 (i : Int) ∧ i ≤ nk ∧ Hid (Sp6 B W1 wr)) (fun s2 _ => nk - (RowKit.intOf s2).toNat)
  case atStart => exact ⟨0, rfl, Nat.zero_le _, Lib.hid (Sp6.refl _ _)⟩
  case round =>
   obtain ⟨i, rfl, hi, HW⟩ := hrel
   obtain ⟨x2, x3⟩ := HXB.out wr HW.out
   by_cases hil : i < nk
   ·have dk : decide ((i : Int) < (nk : Int)) = true := decide_eq_true (by omega)
    obtain ⟨g, o, cur, T, s1, rfl, hg, hh, hc⟩ := HKS.out wr HW.out i hil
    obtain ⟨y1, y2⟩ := cells_of hh hc
    have hi0 : (0 : Int) ≤ (i : Int) := by omega
    have hi1 : (i : Int) < (nk : Int) := by omega
    have hiw : IntKind.i64.wrap ((i : Int) + 1) = (i : Int) + 1 := IntWalk.i64_in _ (by omega)
    have HN := Lib.hid (HW.out.trans (Sp6.set hh hc (u := .string ⟨#[115, 112, 111, 105, 108, 116]⟩) (.inr (.inl ⟨_, _, rfl, rfl⟩)) hg))
    clear hh hc
    go_wp2_with fail
    go_roundw
    case rel => exact ⟨i + 1, by go_num, by omega, HN⟩
    case measure => simp [RowKit.intOf]; omega
   ·have dk : decide ((i : Int) < (nk : Int)) = false := decide_eq_false (by omega)
    have dkn : decide (i < nk) = false := decide_eq_false hil
    obtain rfl : i = nk := by omega
    clear hil
    go_wp2_with fail
    clear x2 x3 dk dkn hi
    go_loopw [3] (fun s3 wz => ∃ j : Nat, s3 = .int .i64 (j : Int) ∧ j ≤ ni ∧ Hid (Sp6 B W1 wz)) (fun s3 _ => ni - (RowKit.intOf s3).toNat)
    case atStart => exact ⟨0, rfl, Nat.zero_le _, HW⟩
    case round =>
     obtain ⟨j, rfl, hj, HZ⟩ := hrel
     obtain ⟨x2, x3⟩ := HXB.out _ HZ.out
     by_cases hjl : j < ni
     ·have dk : decide ((j : Int) < (ni : Int)) = true := decide_eq_true (by omega)
      obtain ⟨g, o, cur, T, k1, s1, kv1, iv1, rfl, hg, hh, a1, a2, a3, a4, hsh⟩ := HIS.out _ HZ.out j hjl
      have y1 := (cells_of hh a1).1
      have y2 := (cells_of hh a2).1
      have y3 := (cells_of hh a3).1
      have y4 := (cells_of hh a4).1
      have hj0 : (0 : Int) ≤ (j : Int) := by omega
      have hj1 : (j : Int) < (ni : Int) := by omega
      have hjw : IntKind.i64.wrap ((j : Int) + 1) = (j : Int) + 1 := IntWalk.i64_in _ (by omega)
      have HH := Lib.hid (And.intro hh (And.intro a1 hg))
      have CI := Lib.hid (IH.out k1 s1 kv1 iv1 _ hsh (Nat.le_trans HS1.out HZ.out.bel.size))
      clear hh a1 a2 a3 a4 hsh hg
      go_wp2_with fail
      refine CI.out.mono ?_
      rintro e w5 ⟨rfl, hs5⟩
      have HZ5 := Lib.hid (HZ.out.trans hs5)
      obtain ⟨x2', x3'⟩ := HXB.out _ HZ5.out
      clear x2 x3 y1 y2 y3 y4
      obtain ⟨c5, e5, f5⟩ := hs5.blk _ _ _ HH.out.1
      obtain ⟨v5, b5, d5⟩ := f5 _ _ HH.out.2.1
      obtain ⟨k5, rfl⟩ := d5.num
      obtain ⟨y1, y2⟩ := cells_of e5 b5
      have HN := Lib.hid (HZ5.out.trans (Sp6.set e5 b5 (u := .int .i64 (-7)) (.inr (.inr ⟨_, _, rfl, rfl⟩)) HH.out.2.2))
      clear e5 f5 b5 d5 hs5
      go_wp2_with fail
      go_roundw
      case rel => exact ⟨j + 1, by go_num, by omega, HN⟩
      case measure => simp [RowKit.intOf]; omega
     ·have dk : decide ((j : Int) < (ni : Int)) = false := decide_eq_false (by omega)
      have dkn : decide (j < ni) = false := decide_eq_false hjl
      clear hjl
      have HF := Lib.hid (HB1.out.trans HZ.out)
      go_wp2_with fail
      go_end0
      exact ⟨rfl, by first | exact HF.out | (rw [← hX]; exact HF.out)⟩
theorem SVx.rows {B : Nat} {w : World} {v : Value} {l : List Stp} (h : SVx (fun q => B ≤ q) w v l) (hl : l.length ≤ 1073741824) : KsS B w v := by
 obtain ⟨p, c, rfl, hc, h⟩ := h
 refine ⟨p, _, c, rfl, hl, ?_⟩
 rcases h with h | ⟨g, o, rfl, hg, ⟨cur, hh⟩, h⟩
 ·exact .inl (by rw [h]; rfl)
 ·refine .inr ⟨g, o, cur, _, rfl, hg, hh, fun j hj => ?_⟩
  have := h j _ (List.getElem?_eq_getElem hj)
  rw [node_box hh] at this
  exact ⟨_, this⟩
theorem VDx.rows {B : Nat} {w : World} : ∀ {n : Nat} {t : VT} {kv iv : Value}, VDx (fun q => B ≤ q) w n t kv iv → t.bulk ≤ 1073741824 → Shp B w n kv iv
 | 0, _, _, _, h, _ => h.elim
 | n + 1, t, kv, iv, ⟨h1, p, c, e, hc, h⟩, hb => by
  subst e
  have hkl : t.keys.length ≤ t.bulk ∧ t.items.length ≤ t.bulk ∧ ∀ x ∈ t.items, x.bulk ≤ t.bulk := by
   cases t with
   | mk k s ks l =>
    rw [VT.bulk]
    have h1 := len_le_bulks l
    refine ⟨by show ks.length ≤ _; omega, by show l.length ≤ _; omega, fun x hx => ?_⟩
    have := bulk_mem (show x ∈ l from hx)
    omega
  refine ⟨h1.rows (by omega), p, _, c, rfl, by omega, ?_⟩
  rcases h with h | ⟨g, o, rfl, hg, ⟨cur, hh⟩, h⟩
  ·exact .inl (by rw [h]; rfl)
  ·refine .inr ⟨g, o, cur, _, rfl, hg, hh, fun j hj => ?_⟩
   obtain ⟨kv', iv', a1, a2, a3, a4, a5⟩ := h j _ (List.getElem?_eq_getElem hj)
   rw [node_box hh] at a1 a2 a3 a4
   exact ⟨_, _, kv', iv', a1, a2, a3, a4, VDx.rows a5 (Nat.le_trans (hkl.2.2 _ (List.getElem_mem hj)) hb)⟩
end Go.Proofs.YtbldfpkfinpciaaGreatDoor
