import Derived.Test.YtmghlaajocgoaaaGreatDoorNumI
/-! The walks of number: Parse. -/
namespace Go.Proofs.YtmghlaajocgoaaaGreatDoor
set_option linter.unusedSimpArgs false
set_option linter.unusedVariables false
open Go.RowKit
open Go.Lib hiding intOf

theorem trimZ (l : List UInt8) (w : World) :
    Calls Tryz.prog 69 #[.string (bs l), .string ⟨#[48]⟩] w fun e w' => e = .returned (.string (bs (noZeros l))) ∧ w = w' := by
  have h := Tryz.strings_TrimLeft_one (bs l) 48 (by decide) w
  rw [bs_data] at h
  exact h.mono fun _ _ ⟨a, b⟩ => ⟨a, b.symm⟩
theorem trimT (l : List UInt8) (w : World) (hl : l.length ≤ 9223372036854775807) :
    Calls Tryz.prog 70 #[.string (bs l), .string ⟨#[48]⟩] w fun e w' => e = .returned (.string (bs (noTail l))) ∧ w = w' := by
  have h := Tryz.strings_TrimRight_one (bs l) 48 (by decide) w (by rw [bs_size]; exact hl)
  rw [bs_data] at h
  exact h.mono fun _ _ ⟨a, b⟩ => ⟨a, b.symm⟩
theorem cutAt_len2 (p : UInt8 → Bool) (l : List UInt8) : (cutAt p l).1.length + (cutAt p l).2.1.length ≤ l.length := by
  have h := congrArg List.length (List.takeWhile_append_dropWhile (p := fun c => !p c) (l := l))
  rw [List.length_append] at h
  unfold cutAt
  split
  · simp
  · rename_i e
    rw [e] at h
    simp only [List.length_cons] at h
    simp only []
    omega
theorem litOf_len {l : List UInt8} {x : Lit} (h : litOf l = some x) : x.whole.length + x.rest.length ≤ l.length := by
  unfold litOf at h
  simp only [] at h
  generalize (if (cutAt isE (unsign l)).2.2 = true then unplus (cutAt isE (unsign l)).2.1 else []) = xx at h
  split at h
  · injection h with h
    subst h
    have h1 := cutAt_len2 isDot (cutAt isE (unsign l)).1
    have h2 := cutAt_len isE (unsign l)
    have h3 := unsign_len l
    simp only []
    omega
  · cases h
theorem right_of {x : Lit} {k : Int} {D : List UInt8} (h1 : allDig x.whole = true) (h2 : x.rest.all isDig = true) (hlen : ¬ 1000 < x.whole.length + x.rest.length) (hD : noZeros (x.whole ++ x.rest) = D) (hd : D ≠ []) :
    rightB ⟨x.neg, noTail D, k⟩ = decide (¬ (k < -1000000 ∨ 1000000 < k)) := by
  have hall : D.all isDig = true := hD ▸ noZeros_all (by rw [List.all_append, Bool.and_eq_true]; exact ⟨(allDig_ne h1).2, h2⟩)
  have hh := noTail_head (l := D) (hD ▸ noZeros_head _) hd
  have hl1 : D.length ≤ x.whole.length + x.rest.length := by
    have := (List.dropWhile_sublist (p := fun c : UInt8 => c == 48) (l := x.whole ++ x.rest)).length_le
    rw [List.length_append] at this; exact hD ▸ this
  have hl2 := congrArg List.length (noTail_split D)
  rw [List.length_append] at hl2
  unfold rightB
  apply decide_eq_decide.2
  constructor
  · rintro (h | h)
    · injection h with _ h _; exact absurd h hh.1
    · have h3 := h.2.2.2.2; simp only [] at h3; omega
  · intro h
    exact .inr ⟨allDig_mk hh.1 (noTail_all hall), by show (noTail D).length ≤ 1000; omega, hh.2, noTail_last _, by simp only []; omega, by simp only []; omega⟩
def numV (n : Num) : Value := .agg #[.bool n.neg, .string (bs n.dig), .int .i64 n.exp]
def Parsed (r : Num × Int) : Ending := .returned (.tuple #[numV r.1, .int .i64 r.2])
theorem box3 {w : World} {g : Nat} {t : TypeId} {a b c : Value} (h : w.heap[g]? = some (.cells #[a, b, c] t (0, 0))) :
    w.cell? ⟨g, 0, none⟩ = some a ∧ w.cell? ⟨g, 1, none⟩ = some b ∧ w.cell? ⟨g, 2, none⟩ = some c ∧
    w.frozen? ⟨g, 0, none⟩ = false ∧ w.frozen? ⟨g, 1, none⟩ = false ∧ w.frozen? ⟨g, 2, none⟩ = false :=
  ⟨box_cell h 0, box_cell h 1, box_cell h 2, box_free h 0, box_free h 1, box_free h 2⟩
set_option maxHeartbeats 4000000 in
theorem parse_any (l : List UInt8) (w : World) (hs : l.length ≤ 4294967296) :
    Calls Tryz.prog 58 #[.string (bs l)] w fun e w' => e = Parsed (parseL l) ∧ Below w.heap.size w w' := by
  obtain ⟨R, hR⟩ : ∃ R, parseL l = R := ⟨_, rfl⟩
  rw [hR]
  have HR := Lib.hid hR; clear hR
  have CR := Lib.hid (fun w => read_any l w hs)
  go_enter Tryz.func58, Tryz.ntmps58
  go_wp2_with fail
  refine (CR.out _).mono ?_
  rintro e w1 ⟨⟨n, lo, a, b, c, is, rfl, hlit⟩, hb1⟩
  have HL := Lib.hid hlit; clear hlit
  have C1 := Lib.hid (trimZ c)
  have HB1 := Lib.hid (((Below.refl w.heap.size w).alloc (Nat.le_refl _) _).trans (hb1.mono (by simp)))
  have HK1 := Lib.hid ((hb1.block w.heap.size (by simp)).trans (heap_alloc_new w _))
  have hz1 : w.heap.size < w1.heap.size := cell_it HK1.out
  clear hb1
  obtain ⟨r0, r1, r2, g0, g1, g2⟩ := box3 HK1.out
  cases is with
  | false =>
    obtain rfl : R = (nought, 2) := by have h1 : litOf l = none := HL.out; have h2 := HR.out; unfold parseL at h2; rw [h1] at h2; exact h2.symm
    go_wp2_with (go_at_call 69; go_must (refine (C1.out _).mono ?_); rintro e w' ⟨rfl, rfl⟩)
    have hf := box3 ((Below.heap_alloc (((w1.setCell ⟨w.heap.size, 0, none⟩ (.bool false)).setCell ⟨w.heap.size, 1, none⟩ (.string ⟨#[]⟩)).setCell ⟨w.heap.size, 2, none⟩ (.int .i64 0)) (.cells #[.bool n, .bool lo, .string (bs a), .string (bs b), .string (bs c)] 102) w.heap.size (by simp [World.setCell]; exact hz1)).trans (box_set (box_set (box_set HK1.out 0 (.bool false)) 1 (.string ⟨#[]⟩)) 2 (.int .i64 0)))
    clear r0 r1 r2 g0 g1 g2
    obtain ⟨r0, r1, r2, g0, g1, g2⟩ := hf
    refine bodyPost_ret (v := .tuple #[numV nought, .int .i64 2]) ?_ rfl ⟨rfl, ?_⟩
    · simp [results, Tryz.results58, go_sem, r0, r1, r2, numV, nought]; rfl
    · refine Below.alloc ?_ (by simp [World.setCell]; omega) _
      repeat (first | refine below_set ?_ (Nat.le_refl _) | refine Below.drew ?_)
      exact HB1.out
  | true =>
    have hlit : litOf l = some ⟨n, a, b, lo, c⟩ := HL.out
    have hlen := litOf_len hlit
    obtain ⟨p1, p2, p3⟩ := litOf_parts hlit
    have hR2 : parseLit ⟨n, a, b, lo, c⟩ = R := by rw [← HR.out]; unfold parseL; rw [hlit]
    simp only [] at hlen p1 p2 p3
    unfold parseLit at hR2
    simp only [] at hR2
    have sa := bs_size a
    have sb := bs_size b
    have sc := bs_size (noZeros c)
    clear HL HR hlit
    by_cases t1 : 1000 < a.length + b.length
    · rw [if_pos t1] at hR2
      subst hR2
      clear p1 p2 p3
      go_wp2_with (go_at_call 69; go_must (refine (C1.out _).mono ?_); rintro e w' ⟨rfl, rfl⟩)
      have hf := box3 ((Below.heap_alloc (((w1.setCell ⟨w.heap.size, 0, none⟩ (.bool false)).setCell ⟨w.heap.size, 1, none⟩ (.string ⟨#[]⟩)).setCell ⟨w.heap.size, 2, none⟩ (.int .i64 0)) (.cells #[.bool n, .bool lo, .string (bs a), .string (bs b), .string (bs c)] 102) w.heap.size (by simp [World.setCell]; exact hz1)).trans (box_set (box_set (box_set HK1.out 0 (.bool false)) 1 (.string ⟨#[]⟩)) 2 (.int .i64 0)))
      clear r0 r1 r2 g0 g1 g2
      obtain ⟨r0, r1, r2, g0, g1, g2⟩ := hf
      refine bodyPost_ret (v := .tuple #[numV nought, .int .i64 3]) ?_ rfl ⟨rfl, ?_⟩
      · simp [results, Tryz.results58, go_sem, r0, r1, r2, numV, nought]; rfl
      · refine Below.alloc ?_ (by simp [World.setCell]; omega) _
        repeat (first | refine below_set ?_ (Nat.le_refl _) | refine Below.drew ?_)
        exact HB1.out
    rw [if_neg t1] at hR2
    by_cases t2 : 9 < (noZeros c).length
    · rw [if_pos t2] at hR2
      subst hR2
      clear p1 p2 p3
      go_wp2_with (go_at_call 69; go_must (refine (C1.out _).mono ?_); rintro e w' ⟨rfl, rfl⟩)
      have hf := box3 ((Below.heap_alloc (((w1.setCell ⟨w.heap.size, 0, none⟩ (.bool false)).setCell ⟨w.heap.size, 1, none⟩ (.string ⟨#[]⟩)).setCell ⟨w.heap.size, 2, none⟩ (.int .i64 0)) (.cells #[.bool n, .bool lo, .string (bs a), .string (bs b), .string (bs c)] 102) w.heap.size (by simp [World.setCell]; exact hz1)).trans (box_set (box_set (box_set HK1.out 0 (.bool false)) 1 (.string ⟨#[]⟩)) 2 (.int .i64 0)))
      clear r0 r1 r2 g0 g1 g2
      obtain ⟨r0, r1, r2, g0, g1, g2⟩ := hf
      refine bodyPost_ret (v := .tuple #[numV nought, .int .i64 4]) ?_ rfl ⟨rfl, ?_⟩
      · simp [results, Tryz.results58, go_sem, r0, r1, r2, numV, nought]; rfl
      · refine Below.alloc ?_ (by simp [World.setCell]; omega) _
        repeat (first | refine below_set ?_ (Nat.le_refl _) | refine Below.drew ?_)
        exact HB1.out
    rw [if_neg t2] at hR2
    rw [← decV_noZeros c] at hR2
    obtain ⟨Z, hZ⟩ : ∃ Z, noZeros c = Z := ⟨_, rfl⟩
    have hZd : Z.all isDig = true := hZ ▸ noZeros_all p3
    rw [hZ] at hR2 t2 C1 sc
    clear hZ p3
    have hZb : (bs Z).data.toList = Z := bs_data Z
    obtain ⟨S, hS⟩ : ∃ S, bs Z = S := ⟨_, rfl⟩
    rw [hS] at hZb C1 sc
    have hsz : S.size ≤ 9 := by rw [sc]; omega
    have HE := Lib.hid hR2; have HZ := Lib.hid hZd; have HZb := Lib.hid hZb
    have HP1 := Lib.hid p1; have HP2 := Lib.hid p2; have HT1 := Lib.hid t1
    clear hR2 hZd hZb p1 p2 t2 hS sc
    have hDz : ∀ p (h : p < S.size), isDig (S[p]'h) = true := fun p h => by
      have h1 := HZ.out
      rw [← HZb.out, List.all_eq_true] at h1
      exact h1 _ (Array.getElem_mem_toList _)
    have hbd : ∀ p, 0 ≤ decV (S.data.toList.take p) ∧ decV (S.data.toList.take p) < 1000000000 := fun p => by
      have h1 : (S.data.toList.take p).all isDig = true := by
        have h2 := HZ.out
        rw [← HZb.out] at h2
        rw [List.all_eq_true] at h2 ⊢
        exact fun x hx => h2 x (List.take_subset _ _ hx)
      have h3 := decV_bd _ h1
      have h4 : (S.data.toList.take p).length ≤ 9 := by rw [List.length_take]; have : S.data.toList.length = S.size := rfl; omega
      have h5 : (10 : Int) ^ (S.data.toList.take p).length ≤ 10 ^ 9 := by exact_mod_cast Nat.pow_le_pow_right (n := 10) (by decide) h4
      omega
    have HDz := Lib.hid hDz; have HBd := Lib.hid hbd; clear hDz hbd
    go_wp2_with (go_at_call 69; go_must (refine (C1.out _).mono ?_); rintro e w' ⟨rfl, rfl⟩)
    go_loopw [7, 9] (fun s7 _ wr => ∃ p : Nat, p ≤ S.size ∧ s7 = .int .i64 (decV (S.data.toList.take p)) ∧ Hid (wr.heap[w1.heap.size + 1]? = some (.stringIter S p)) ∧ Hid (wr.heap[w1.heap.size]? = some (.cells #[.bool n, .bool lo, .string (bs a), .string (bs b), .string (bs c)] 102 (0, 0))) ∧ Hid (wr.heap[w.heap.size]? = some (.cells #[.bool false, .string ⟨#[]⟩, .int .i64 0] 75 (0, 0))) ∧ Hid (Below w.heap.size w wr)) (fun _ _ wr => S.size - wr.iterPos (w1.heap.size + 1))
    case atStart =>
      have hs1 : (w1.alloc (.cells #[.bool n, .bool lo, .string (bs a), .string (bs b), .string (bs c)] 102)).heap.size = w1.heap.size + 1 := by simp
      refine ⟨0, by omega, rfl, ?_, ?_, ?_, ?_⟩
      · have := World.iter_heap (w1.alloc (.cells #[.bool n, .bool lo, .string (bs a), .string (bs b), .string (bs c)] 102)) S 0
        rw [hs1] at this; exact this
      · exact (Below.heap_alloc _ _ _ (by rw [hs1]; omega)).trans (heap_alloc_new w1 _)
      · exact (Below.heap_alloc _ _ _ (by rw [hs1]; omega)).trans ((Below.heap_alloc _ _ _ hz1).trans HK1.out)
      · exact (HB1.out.alloc (by omega) _).alloc (by rw [hs1]; omega) _
    case round =>
      obtain ⟨p, hp, rfl, HI, HX, HO, HW⟩ := hrel
      by_cases hlt : p < S.size
      · have hnx : ∀ ty, (Instr.next (.pointer (some ⟨w1.heap.size + 1, 0, none⟩)) true ty).run Tryz.prog wr = .ok (.tuple #[.bool true, .int .i64 p, .int .i32 (runeI S p)]) (wr.iterAt (w1.heap.size + 1) S (p + widN S p)) := fun ty => Lib.run_next_any_at wr _ S p ty HI.out hlt
        have hdg := HDz.out p hlt
        obtain ⟨e1, e2⟩ := rune_yes S p hlt hdg
        have hb := of_decide_eq_true hdg
        rw [e1, e2] at hnx
        have hstep : decV (S.data.toList.take (p + 1)) = 10 * decV (S.data.toList.take p) + (((S[p]'hlt).toNat : Int) - 48) := by rw [take_next S p hlt, decV_snoc]
        have b1 := HBd.out p
        have b2 := HBd.out (p + 1)
        have HI2 := Lib.hid (Lib.iterAt_heap wr (w1.heap.size + 1) S p (p + 1) HI.out)
        have HW2 := Lib.hid (Lib.below_iterAt HW.out (show w.heap.size ≤ w1.heap.size + 1 by omega) S (p + 1))
        have HM := Lib.hid (iterPos_of HI.out)
        have HX2 : Hid ((wr.iterAt (w1.heap.size + 1) S (p + 1)).heap[w1.heap.size]? = some (.cells #[.bool n, .bool lo, .string (bs a), .string (bs b), .string (bs c)] 102 (0, 0))) := by
          exact (Lib.iterAt_other wr _ _ S _ (by omega)).trans HX.out
        have HO2 : Hid ((wr.iterAt (w1.heap.size + 1) S (p + 1)).heap[w.heap.size]? = some (.cells #[.bool false, .string ⟨#[]⟩, .int .i64 0] 75 (0, 0))) := by
          exact (Lib.iterAt_other wr _ _ S _ (by omega)).trans HO.out
        generalize decV (S.data.toList.take p) = V at *
        have HS := Lib.hid hstep
        rw [hstep] at b2
        clear e1 e2 hdg hstep
        go_wp2_with fail
        go_roundw
        case rel => exact ⟨p + 1, by omega, by rw [HS.out], HI2.out, HX2.out, HO2.out, HW2.out⟩
        case measure => rw [iterPos_of HI2.out, HM.out]; omega
      · have hnx : ∀ ty, (Instr.next (.pointer (some ⟨w1.heap.size + 1, 0, none⟩)) true ty).run Tryz.prog wr = .ok (.tuple #[.bool false]) wr := fun ty => Lib.run_next_end_at wr _ S p ty HI.out hlt
        have hV : decV (S.data.toList.take p) = decV Z := by
          rw [List.take_of_length_le (by have : S.data.toList.length = S.size := rfl; omega), HZb.out]
        have b1 := HBd.out p
        rw [hV] at b1 ⊢
        clear hV
        have HE1 := HE.out
        generalize decV Z = V at *
        obtain ⟨x0, x1, x2, x3, x4, f0, f1, f2, f3, f4⟩ := box5 HX.out
        obtain ⟨r0, r1, r2, g0, g1, g2⟩ := box3 HO.out
        obtain ⟨D, hD⟩ : ∃ D, noZeros (a ++ b) = D := ⟨_, rfl⟩
        rw [hD] at HE1
        have C2 := Lib.hid (show ∀ w, Calls Tryz.prog 69 #[.string (bs a ++ bs b), .string ⟨#[48]⟩] w fun e w' => e = .returned (.string (bs D)) ∧ w = w' from fun w => by rw [bs_append, ← hD]; exact trimZ (a ++ b) w)
        have hDl : D.length ≤ 1000 := by
          have := (List.dropWhile_sublist (p := fun c : UInt8 => c == 48) (l := a ++ b)).length_le
          rw [List.length_append] at this
          have h2 : (noZeros (a ++ b)).length ≤ a.length + b.length := this
          rw [hD] at h2; have := HT1.out; omega
        have hTl := congrArg List.length (noTail_split D)
        rw [List.length_append] at hTl
        have C3 := Lib.hid (fun w => trimT D w (by omega))
        have C4 := Lib.hid (fun k w => right_any n (bs (noTail D)) k w (by rw [bs_size]; omega))
        have sD := bs_size D
        have sT := bs_size (noTail D)
        have htl : (noTail D).length ≤ D.length := by omega
        clear hTl
        have HRt := Lib.hid (fun hne k => right_of (x := ⟨n, a, b, lo, c⟩) (k := k) HP1.out HP2.out HT1.out hD hne)
        have hDt : (bs D).toList = D := by rw [Lib.toList_data, bs_data]
        clear hD
        have hbl : b.length ≤ 1000 := by have := HT1.out; omega
        by_cases hne : D = []
        · rw [if_pos hne] at HE1
          rw [hne] at hDt
          have HR1 := Lib.hid HE1; clear HE1
          cases lo
          all_goals
            go_wp2_with (go_at_call 69; go_must (refine (C2.out _).mono ?_); rintro e w' ⟨rfl, rfl⟩)
            clear r0 r1 r2 g0 g1 g2
            have hf := box3 (box_set (box_set (box_set HO.out 0 (.bool false)) 1 (.string ⟨#[]⟩)) 2 (.int .i64 0))
            obtain ⟨r0, r1, r2, g0, g1, g2⟩ := hf
            refine bodyPost_ret (v := .tuple #[numV nought, .int .i64 0]) ?_ rfl ⟨by rw [← HR1.out]; rfl, ?_⟩
            · simp [results, Tryz.results58, go_sem, r0, r1, r2, numV, nought]; try rfl
            · repeat (first | refine below_set ?_ (Nat.le_refl _) | refine Below.drew ?_)
              exact HW.out
        · rw [if_neg hne] at HE1
          have hDn : ¬ (bs D).toList = [] := by rw [hDt]; exact hne
          have hDn2 : ((bs D).toList == []) = false := beq_eq_false_iff_ne.2 hDn
          have hDn3 : (bs D).toList.isEmpty = false := by rw [hDt]; cases D with | nil => exact absurd rfl hne | cons _ _ => rfl
          clear hDt
          have HR0 := Lib.hid HE1; clear HE1
          cases lo with
          | false =>
            have h0 : (if V - (b.length : Int) + ((D.length : Int) - ((noTail D).length : Int)) < -1000000 ∨ 1000000 < V - (b.length : Int) + ((D.length : Int) - ((noTail D).length : Int)) then ((nought, 4) : Num × Int) else (⟨n, noTail D, V - (b.length : Int) + ((D.length : Int) - ((noTail D).length : Int))⟩, 0)) = R := HR0.out
            rw [show V - (b.length : Int) + ((D.length : Int) - ((noTail D).length : Int)) = V - (b.length : Int) + (D.length : Int) - ((noTail D).length : Int) from by omega] at h0
            have HR3 := Lib.hid h0
            clear h0
            go_wp2_with (first | (go_at_call 69; go_must (refine (C2.out _).mono ?_); rintro e w' ⟨rfl, rfl⟩) | (go_at_call 70; go_must (refine (C3.out _).mono ?_); rintro e w' ⟨rfl, rfl⟩))
            refine (C4.out _ _).mono ?_
            rw [bs_data, HRt.out hne]
            rintro e w4 ⟨rfl, hb4⟩
            have h0 := HR3.out
            clear HR3 HR0 HRt C1 C2 C3 C4 HE HP1 HP2 HT1 HDz HBd
            generalize V - (b.length : Int) + (D.length : Int) - ((noTail D).length : Int) = K at h0 hb4 ⊢
            have HN := Lib.hid ((hb4.block wr.heap.size (by simp)).trans (heap_alloc_new wr _))
            have hzw : w.heap.size < wr.heap.size := cell_it HO.out
            have HO4 := Lib.hid ((hb4.block w.heap.size (by simp; omega)).trans ((Below.heap_alloc _ _ _ hzw).trans HO.out))
            have HB4 := Lib.hid ((HW.out.alloc (Nat.le_of_lt hzw) _).trans (hb4.mono (by simp; omega)))
            clear hb4 r0 r1 r2 g0 g1 g2 x0 x1 x2 x3 x4 f0 f1 f2 f3 f4
            obtain ⟨r0, r1, r2, g0, g1, g2⟩ := box3 HO4.out
            obtain ⟨m0, m1, m2, q0, q1, q2⟩ := box3 HN.out
            by_cases hk : K < -1000000 ∨ 1000000 < K
            · rw [if_pos hk] at h0
              have HR1 := Lib.hid h0
              clear h0
              rw [decide_eq_false (fun h => h hk)]
              go_wp2_with fail
              have hf := box3 (box_set (box_set (box_set HO4.out 0 (.bool false)) 1 (.string ⟨#[]⟩)) 2 (.int .i64 0))
              clear r0 r1 r2 g0 g1 g2
              obtain ⟨r0, r1, r2, g0, g1, g2⟩ := hf
              refine bodyPost_ret (v := .tuple #[numV nought, .int .i64 4]) ?_ rfl ⟨by rw [← HR1.out]; rfl, ?_⟩
              · simp [results, Tryz.results58, go_sem, r0, r1, r2, numV, nought]; try rfl
              · repeat (first | refine below_set ?_ (Nat.le_refl _) | refine Below.drew ?_)
                exact HB4.out
            · rw [if_neg hk] at h0
              have HR1 := Lib.hid h0
              clear h0
              rw [decide_eq_true hk]
              go_wp2_with fail
              have hf := box3 (box_set (box_set (box_set HO4.out 0 (.bool n)) 1 (.string (bs (noTail D)))) 2 (.int .i64 K))
              clear r0 r1 r2 g0 g1 g2
              obtain ⟨r0, r1, r2, g0, g1, g2⟩ := hf
              refine bodyPost_ret (v := .tuple #[numV ⟨n, noTail D, K⟩, .int .i64 0]) ?_ rfl ⟨by rw [← HR1.out]; rfl, ?_⟩
              · simp [results, Tryz.results58, go_sem, r0, r1, r2, numV, nought]; try rfl
              · repeat (first | refine below_set ?_ (Nat.le_refl _) | refine Below.drew ?_)
                exact HB4.out
          | true =>
            have h0 : (if -V - (b.length : Int) + ((D.length : Int) - ((noTail D).length : Int)) < -1000000 ∨ 1000000 < -V - (b.length : Int) + ((D.length : Int) - ((noTail D).length : Int)) then ((nought, 4) : Num × Int) else (⟨n, noTail D, -V - (b.length : Int) + ((D.length : Int) - ((noTail D).length : Int))⟩, 0)) = R := HR0.out
            rw [show -V - (b.length : Int) + ((D.length : Int) - ((noTail D).length : Int)) = -V - (b.length : Int) + (D.length : Int) - ((noTail D).length : Int) from by omega] at h0
            have HR3 := Lib.hid h0
            clear h0
            go_wp2_with (first | (go_at_call 69; go_must (refine (C2.out _).mono ?_); rintro e w' ⟨rfl, rfl⟩) | (go_at_call 70; go_must (refine (C3.out _).mono ?_); rintro e w' ⟨rfl, rfl⟩))
            refine (C4.out _ _).mono ?_
            rw [bs_data, HRt.out hne]
            rintro e w4 ⟨rfl, hb4⟩
            have h0 := HR3.out
            clear HR3 HR0 HRt C1 C2 C3 C4 HE HP1 HP2 HT1 HDz HBd
            generalize -V - (b.length : Int) + (D.length : Int) - ((noTail D).length : Int) = K at h0 hb4 ⊢
            have HN := Lib.hid ((hb4.block wr.heap.size (by simp)).trans (heap_alloc_new wr _))
            have hzw : w.heap.size < wr.heap.size := cell_it HO.out
            have HO4 := Lib.hid ((hb4.block w.heap.size (by simp; omega)).trans ((Below.heap_alloc _ _ _ hzw).trans HO.out))
            have HB4 := Lib.hid ((HW.out.alloc (Nat.le_of_lt hzw) _).trans (hb4.mono (by simp; omega)))
            clear hb4 r0 r1 r2 g0 g1 g2 x0 x1 x2 x3 x4 f0 f1 f2 f3 f4
            obtain ⟨r0, r1, r2, g0, g1, g2⟩ := box3 HO4.out
            obtain ⟨m0, m1, m2, q0, q1, q2⟩ := box3 HN.out
            by_cases hk : K < -1000000 ∨ 1000000 < K
            · rw [if_pos hk] at h0
              have HR1 := Lib.hid h0
              clear h0
              rw [decide_eq_false (fun h => h hk)]
              go_wp2_with fail
              have hf := box3 (box_set (box_set (box_set HO4.out 0 (.bool false)) 1 (.string ⟨#[]⟩)) 2 (.int .i64 0))
              clear r0 r1 r2 g0 g1 g2
              obtain ⟨r0, r1, r2, g0, g1, g2⟩ := hf
              refine bodyPost_ret (v := .tuple #[numV nought, .int .i64 4]) ?_ rfl ⟨by rw [← HR1.out]; rfl, ?_⟩
              · simp [results, Tryz.results58, go_sem, r0, r1, r2, numV, nought]; try rfl
              · repeat (first | refine below_set ?_ (Nat.le_refl _) | refine Below.drew ?_)
                exact HB4.out
            · rw [if_neg hk] at h0
              have HR1 := Lib.hid h0
              clear h0
              rw [decide_eq_true hk]
              go_wp2_with fail
              have hf := box3 (box_set (box_set (box_set HO4.out 0 (.bool n)) 1 (.string (bs (noTail D)))) 2 (.int .i64 K))
              clear r0 r1 r2 g0 g1 g2
              obtain ⟨r0, r1, r2, g0, g1, g2⟩ := hf
              refine bodyPost_ret (v := .tuple #[numV ⟨n, noTail D, K⟩, .int .i64 0]) ?_ rfl ⟨by rw [← HR1.out]; rfl, ?_⟩
              · simp [results, Tryz.results58, go_sem, r0, r1, r2, numV, nought]; try rfl
              · repeat (first | refine below_set ?_ (Nat.le_refl _) | refine Below.drew ?_)
                exact HB4.out
end Go.Proofs.YtmghlaajocgoaaaGreatDoor
