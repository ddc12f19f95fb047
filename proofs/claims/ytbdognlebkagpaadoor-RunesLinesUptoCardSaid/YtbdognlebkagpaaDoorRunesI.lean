import Derived.Test.YtbdognlebkagpaaDoorRunesH
namespace Go.Proofs.YtbdognlebkagpaaDoor
open Go.RowKit
open Go.Lib hiding intOf

/-! runes.Place. -/
theorem runeLen_at (r : Int) (w : World) : Calls Tryd.prog 21 #[.int .i32 r] w fun e w' => e = .returned (.int .i64 (Lib.runeLen r)) ∧ w = w' :=
  (Tryd.utf8_RuneLen r w).mono fun _ _ ⟨a, b⟩ => ⟨a, b.symm⟩
theorem bad_true (c n : Int) (w : World) (h : badB c n = true) : Calls Tryd.prog 23 #[.int .i32 c, .int .i64 n] w fun e w' => e = .returned (.bool true) ∧ w = w' := by rw [← h]; exact bad_any c n w
theorem bad_false (c n : Int) (w : World) (h : badB c n = false) : Calls Tryd.prog 23 #[.int .i32 c, .int .i64 n] w fun e w' => e = .returned (.bool false) ∧ w = w' := by rw [← h]; exact bad_any c n w
theorem tail_runes (s : ByteArray) (b p : Nat) : runeI (s.extract b s.size) p = runeI s (b + p) ∧ widN (s.extract b s.size) p = widN s (b + p) := by
  unfold runeI widN; rw [Lib.tail_decode]; exact ⟨rfl, rfl⟩
theorem good_bad (s : ByteArray) (i : Nat) : badB (runeI s i) (widN s i) = !goodB s i := by
  unfold badB goodB; rw [Bool.not_not]
/-- The width that Place reckons with. -/
def sizeI (s : ByteArray) (i : Nat) : Int := if goodB s i then Lib.runeLen (runeI s i) else widN s i
theorem sizeI_wid (s : ByteArray) (i : Nat) : sizeI s i = (widN s i : Int) := by
  unfold sizeI; split
  · rename_i h; exact runeLen_wid s i h
  · rfl
theorem count_at (s : ByteArray) (q : Nat) (w : World) :
    Calls Tryd.prog 24 #[.string (s.extract 0 q), .string ⟨#[10]⟩] w fun e w' => e = .returned (.int .i64 (lineNo s q)) ∧ w = w' := by
  have h := Tryd.strings_Count_one (s.extract 0 q) 10 w
  rw [show Lib.countByte (s.extract 0 q).data.toList 10 = lineNo s q from by
    rw [Lib.extract_data]; unfold Lib.countByte lineNo nls; simp] at h
  exact h.mono fun _ _ ⟨a, b⟩ => ⟨a, b.symm⟩
theorem lineNo_le (s : ByteArray) (q : Nat) : lineNo s q ≤ s.size := by
  unfold lineNo nls
  have h1 := List.count_le_length (a := (10 : UInt8)) (l := s.data.toList.take q)
  have h2 : s.data.toList.length = s.size := rfl
  rw [List.length_take] at h1
  omega

set_option maxHeartbeats 2000000 in
theorem place_at (s : ByteArray) (q : Nat) (w : World) (hq : q ≤ s.size) (hs : s.size ≤ 4294967000) (hT : Tabs w) :
    Calls Tryd.prog 9 #[.string s, .int .i64 q] w fun e w' => e = .returned (.tuple #[.int .i64 ((lineNo s q : Int) + 1), .int .i64 (colOf s q), .bool true]) ∧ Below w.heap.size w w' := by
  have hst := (lineStart_char s q hq).1
  have hbg := begins_at s q w hq hs
  have hcols := Lib.hid (Cols.zero s q)
  have hnl := lineNo_le s q
  have hcn := count_at s q
  generalize lineStart s q = b at *
  have HBG := Lib.hid hbg; clear hbg
  have HCN := Lib.hid hcn; clear hcn
  go_enter Tryd.func9, Tryd.ntmps9
  go_wp2_with (go_at_call 20; go_must (refine HBG.out.mono ?_); rintro e w' ⟨rfl, rfl⟩)
  have hRz : (s.extract b s.size).size + b = s.size := by rw [ByteArray.size_extract]; omega
  have hRr := tail_runes s b
  generalize s.extract b s.size = R at *
  have HR := Lib.hid hRr; clear hRr
  have hRz1 : R.size + b ≤ s.size := by omega
  have hRz2 : s.size ≤ R.size + b := by omega
  clear hRz
  go_loopw [5] (fun c wr => ∃ c0 p : Nat, p ≤ R.size ∧ c0 ≤ p + 1 ∧ c = .int .i64 c0 ∧ Hid (Cols s q c0 (b + p)) ∧ Hid (wr.heap[w.heap.size]? = some (.stringIter R p)) ∧ Hid (Below w.heap.size w wr)) (fun _ wr => R.size - wr.iterPos w.heap.size)
  case atStart => exact ⟨1, 0, by omega, by omega, rfl, hcols.out, World.iter_heap w R 0, (Below.refl _ _).alloc (Nat.le_refl _) _⟩
  case round =>
    obtain ⟨c0, p, hp, hcp, rfl, HL, HI, HW⟩ := hrel
    by_cases hlt : p < R.size
    · obtain ⟨er, ew⟩ := HR.out p
      have hw := widN_bd s (b + p) (by omega)
      have hrb := runeI_bd s (b + p)
      have hnx : ∀ ty, (Instr.next (.pointer (some ⟨w.heap.size, 0, none⟩)) true ty).run Tryd.prog wr = .ok (.tuple #[.bool true, .int .i64 p, .int .i32 (runeI R p)]) (wr.iterAt w.heap.size R (p + widN R p)) := fun ty => Lib.run_next_any_at wr _ R p ty HI.out hlt
      have HI2 := Lib.hid (Lib.iterAt_heap wr w.heap.size R p (p + widN R p) HI.out)
      have HW2 := Lib.hid (Lib.below_iterAt HW.out (Nat.le_refl w.heap.size) R (p + widN R p))
      have hT2 : Tabs (wr.iterAt w.heap.size R (p + widN R p)) := hT.keep HW2.out
      have HM := Lib.hid (iterPos_of HI.out)
      have hdec := dec_at R p (wr.iterAt w.heap.size R (p + widN R p)) hlt hT2
      rw [er, ew] at hnx hdec
      rw [ew] at HI2 HW2
      clear er ew hT2
      have hgb := good_bad s (b + p)
      have hsz := sizeI_wid s (b + p)
      unfold sizeI at hsz
      have HD := Lib.hid hdec; clear hdec
      have hrl := runeLen_at (runeI s (b + p))
      cases hg : goodB s (b + p) with
      | true =>
        rw [hg] at hgb hsz; simp only [if_true] at hsz
        rw [hsz] at hrl
        have HRL := Lib.hid hrl
        have HB := Lib.hid (show badB (runeI s (b + p)) (widN s (b + p)) = false from hgb)
        clear hgb hsz hg hrl
        by_cases hq2 : b + p + widN s (b + p) ≤ q
        · have HN := Lib.hid (HL.out.next (by omega) hq2)
          go_wp2_with (first | (go_at_call 21; go_must (refine (HRL.out _).mono ?_); rintro e w' ⟨rfl, rfl⟩) | (go_at_call 22; go_must (refine HD.out.mono ?_); rintro e w2 ⟨rfl, hb⟩) | (go_at_call 23; go_must (refine (bad_false _ _ _ HB.out).mono ?_); rintro e w' ⟨rfl, rfl⟩))
          have HI3 := (hb.block w.heap.size (cell_it HI2.out)).trans HI2.out
          go_roundw
          case rel => exact ⟨c0 + 1, p + widN s (b + p), by omega, by omega, by go_num, by rw [← Nat.add_assoc]; exact HN.out, HI3, HW2.out.trans (hb.mono HW2.out.size)⟩
          case measure => rw [iterPos_of HI3, HM.out]; omega
        · have HN := Lib.hid (HL.out.fin (.inr (by omega)))
          go_wp2_with (first | (go_at_call 21; go_must (refine (HRL.out _).mono ?_); rintro e w' ⟨rfl, rfl⟩) | (go_at_call 22; go_must (refine HD.out.mono ?_); rintro e w2 ⟨rfl, hb⟩) | (go_at_call 23; go_must (refine (bad_false _ _ _ HB.out).mono ?_); rintro e w' ⟨rfl, rfl⟩) | (go_at_call 24; go_must (refine (HCN.out _).mono ?_); rintro e w' ⟨rfl, rfl⟩))
          go_ret3
          exact ⟨ret_place rfl (by rw [HN.out]), HW2.out.trans (hb.mono HW2.out.size)⟩
      | false =>
        rw [hg] at hgb
        have HRL := Lib.hid hrl
        have HB := Lib.hid (show badB (runeI s (b + p)) (widN s (b + p)) = true from hgb)
        clear hgb hsz hg hrl
        by_cases hq2 : b + p + widN s (b + p) ≤ q
        · have HN := Lib.hid (HL.out.next (by omega) hq2)
          go_wp2_with (first | (go_at_call 21; go_must (refine (HRL.out _).mono ?_); rintro e w' ⟨rfl, rfl⟩) | (go_at_call 22; go_must (refine HD.out.mono ?_); rintro e w2 ⟨rfl, hb⟩) | (go_at_call 23; go_must (refine (bad_true _ _ _ HB.out).mono ?_); rintro e w' ⟨rfl, rfl⟩))
          have HI3 := (hb.block w.heap.size (cell_it HI2.out)).trans HI2.out
          go_roundw
          case rel => exact ⟨c0 + 1, p + widN s (b + p), by omega, by omega, by go_num, by rw [← Nat.add_assoc]; exact HN.out, HI3, HW2.out.trans (hb.mono HW2.out.size)⟩
          case measure => rw [iterPos_of HI3, HM.out]; omega
        · have HN := Lib.hid (HL.out.fin (.inr (by omega)))
          go_wp2_with (first | (go_at_call 21; go_must (refine (HRL.out _).mono ?_); rintro e w' ⟨rfl, rfl⟩) | (go_at_call 22; go_must (refine HD.out.mono ?_); rintro e w2 ⟨rfl, hb⟩) | (go_at_call 23; go_must (refine (bad_true _ _ _ HB.out).mono ?_); rintro e w' ⟨rfl, rfl⟩) | (go_at_call 24; go_must (refine (HCN.out _).mono ?_); rintro e w' ⟨rfl, rfl⟩))
          go_ret3
          exact ⟨ret_place rfl (by rw [HN.out]), HW2.out.trans (hb.mono HW2.out.size)⟩
    · have HN := Lib.hid (HL.out.fin (.inl (by omega)))
      have hnx : ∀ ty, (Instr.next (.pointer (some ⟨w.heap.size, 0, none⟩)) true ty).run Tryd.prog wr = .ok (.tuple #[.bool false]) wr := fun ty => Lib.run_next_end_at wr _ R p ty HI.out hlt
      go_wp2_with (go_at_call 24; go_must (refine (HCN.out _).mono ?_); rintro e w' ⟨rfl, rfl⟩)
      go_ret3
      exact ⟨ret_place rfl (by rw [HN.out]), HW.out⟩
end Go.Proofs.YtbdognlebkagpaaDoor
