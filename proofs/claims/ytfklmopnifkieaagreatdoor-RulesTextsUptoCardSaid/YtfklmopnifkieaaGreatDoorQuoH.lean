import Derived.Test.YtfklmopnifkieaaGreatDoorQuoG
import Derived.Test.YtfklmopnifkieaaGreatDoorEncD
import Derived.Lib.MapLaws
import Derived.Lib.TrimAscii
/-! The walk of scarfref03.Read. -/
namespace Go.Proofs.YtfklmopnifkieaaGreatDoor
set_option linter.unusedSimpArgs false
set_option linter.unusedVariables false
open Go.RowKit
open Go.Lib hiding intOf

theorem partL_plain (l : List UInt8) (c : UInt8) (hc : ¬ c = 92) (G : Bool) (hG : G = !((decodeL (c :: l)).1 == 65533 && (decodeL (c :: l)).2 == 1)) :
    (c.toNat < 32 ∨ G = false → partL (c :: l) = (0, 0)) ∧ (¬ c.toNat < 32 → G = true → partL (c :: l) = (((decodeL (c :: l)).1 : Int), ((decodeL (c :: l)).2 : Int)) ∧ encodeRune ((decodeL (c :: l)).1 : Int) = (c :: l).take (decodeL (c :: l)).2) := by
  have h32 := rune_lt32 l c
  have hp : partL (c :: l) = if plainB (decodeL (c :: l)) then (0, 0) else (((decodeL (c :: l)).1 : Int), ((decodeL (c :: l)).2 : Int)) := by
    unfold partL
    rw [if_neg (by simpa using hc)]
  refine ⟨fun h => ?_, fun h1 h2 => ⟨?_, ?_⟩⟩
  · rw [hp, if_pos]
    unfold plainB
    rcases h with h | h
    · rw [decide_eq_true (h32.2 h), Bool.true_or]
    · rw [h] at hG
      have : ((decodeL (c :: l)).1 == 65533 && (decodeL (c :: l)).2 == 1) = true := by simpa using hG.symm
      rw [this, Bool.or_true]
  · rw [hp, if_neg]
    unfold plainB
    rw [decide_eq_false (fun h => h1 (h32.1 h)), Bool.false_or]
    intro hx
    rw [h2, hx] at hG
    exact absurd hG (by decide)
  · refine encode_decode (c :: l) (List.cons_ne_nil _ _) ?_
    rw [h2] at hG
    rintro ⟨a, b⟩
    rw [a, b] at hG
    simp at hG
theorem encS_bytes (r : Int × Int) (h : ¬ r.2 = 0) : encS r = bs (encodeRune r.1) := by
  unfold encS
  rw [if_neg h, ← encode_rune]
  rfl
set_option maxRecDepth 100000 in
set_option maxHeartbeats 4000000 in
theorem refRead_any (l : List UInt8) (a : Nat) (w : World) (hs : l.length ≤ 1073741824) (ha : a ≤ l.length) :
    Calls Tryz.prog 69 #[.string (bs l), .int .i64 a] w fun e w' => e = ReadE (readL l a) ∧ Below w.heap.size w w' := by
  have sl := bs_size l
  obtain ⟨R, hR⟩ : ∃ R, readL l a = R := ⟨_, rfl⟩
  rw [hR]
  unfold readL at hR
  rw [Int.toNat_natCast] at hR
  by_cases h34 : l[a]? = some 34
  · rw [if_pos ⟨by omega, h34⟩] at hR
    have hal : a < l.length := (List.getElem?_eq_some_iff.1 h34).1
    have hal' : a < (bs l).size := by omega
    have t1 : ((((bs l)[a]'hal').toNat : Int) != 34) = false := by
      have := at_bs l a hal'
      rw [h34] at this
      have h2 : (bs l)[a]'hal' = 34 := by simpa using this.symm
      rw [h2]; rfl
    have t1' : (((bs l)[a]'hal').toNat : Int) = 34 := by simpa using t1
    have d1 : decide (l.length ≤ a) = false := decide_eq_false (by omega)
    have HR := Lib.hid hR; clear hR h34
    go_enter Tryz.func69, Tryz.ntmps69
    go_wp2_with fail
    go_loopw [7, 8, 9, 10, 11, 12, 13] (fun s7 s8 _ _ _ _ _ wr => ∃ (i f : Nat) (acc : List UInt8), s7 = .string (bs acc) ∧ s8 = .int .i64 i ∧ i ≤ l.length ∧ acc.length ≤ 4 * i ∧ l.length < i + f ∧ Hid (readGo f (l.drop i) i acc = R) ∧ Hid (Below w.heap.size w wr)) (fun _ s8 _ _ _ _ _ _ => l.length - (RowKit.intOf s8).toNat)
    case atStart => exact ⟨a + 1, l.length + 1, [], rfl, by go_num, by omega, by simp, by omega, HR.out, Below.refl _ _⟩
    case round =>
      obtain ⟨i, f, acc, rfl, rfl, hi, hacc, hf, HG, HW⟩ := hrel
      obtain ⟨g, rfl⟩ : ∃ g, f = g + 1 := ⟨f - 1, by omega⟩
      have sa := bs_size acc
      by_cases hlt : i < l.length
      · have hlt' : i < (bs l).size := by omega
        have hdr : l.drop i = l[i]'hlt :: l.drop (i + 1) := List.drop_eq_getElem_cons hlt
        have hge := at_bs l i hlt'
        rw [List.getElem?_eq_getElem hlt] at hge
        have hge2 : (bs l)[i]'hlt' = l[i]'hlt := by simpa using hge.symm
        have T34 := byte_eq ((bs l)[i]'hlt') 34 34 rfl
        have T92 := byte_eq ((bs l)[i]'hlt') 92 92 rfl
        have hg := HG.out
        rw [hdr] at hg
        unfold readGo at hg
        rw [← hdr, ← hge2] at hg
        clear HG
        by_cases hq : (bs l)[i]'hlt' = 34
        · rw [if_pos hq] at hg
          have HF := Lib.hid hg
          rw [beq_iff_eq.2 hq] at T34
          clear hg hdr hge hge2 hq T92
          go_wp2_with fail
          go_ret3
          exact ⟨by rw [← HF.out]; rfl, HW.out⟩
        · rw [if_neg hq] at hg
          rw [beq_eq_false_iff_ne.2 hq] at T34
          have hne : l.drop i ≠ [] := by rw [hdr]; exact List.cons_ne_nil _ _
          have hpb := partL_bd (l.drop i) hne
          rw [List.length_drop] at hpb
          by_cases h92 : (bs l)[i]'hlt' = 92
          · rw [beq_iff_eq.2 h92] at T92
            have hpe : partL (l.drop i) = escL (l.drop i) := by
              unfold partL
              rw [hdr, if_pos (by rw [List.head?_cons, ← hge2, h92])]
            obtain ⟨P, hP⟩ : ∃ P, partL (l.drop i) = P := ⟨_, rfl⟩
            have CE : Hid (∀ w, Calls Tryz.prog 86 #[.string (bs l), .int .i64 i] w fun e w' => e = RefW P ∧ Below w.heap.size w w') := Lib.hid (fun w => by
              have := refEscape_any (bs l) i w hlt' (by omega)
              rw [bs_data, ← hpe, hP] at this
              exact this)
            rw [hP] at hg hpb
            obtain ⟨rn, wd⟩ := P
            have hes := encS_bytes (rn, wd)
            unfold RefW at CE
            simp only [] at hg hpb CE hes
            obtain ⟨p0, p1, p2⟩ := hpb
            obtain ⟨E, hE⟩ : ∃ E, encS (rn, wd) = E := ⟨_, rfl⟩
            rw [hE] at CE hes
            have hz : w.heap.size ≤ wr.heap.size := HW.out.size
            clear hdr hge hge2 hq hne hP hpe h92 hE
            by_cases hw0 : wd = 0
            · rw [if_pos hw0] at hg
              have HF := Lib.hid hg
              subst hw0
              clear hg p2 hes
              go_wp2_with fail
              refine (CE.out _).mono ?_
              rintro e w1 ⟨rfl, hb1⟩
              go_wp2_with fail
              go_ret3
              exact ⟨by rw [← HF.out]; rfl, HW.out.trans (hb1.mono hz)⟩
            · rw [if_neg hw0] at hg
              have hEb := hes hw0
              subst hEb
              obtain ⟨N, rfl⟩ : ∃ N : Nat, wd = N := ⟨wd.toNat, by omega⟩
              rw [Int.toNat_natCast, List.drop_drop] at hg
              have hN : 1 ≤ N ∧ N ≤ l.length - i := by omega
              have hl4 := Lib.runeCells_le rn
              rw [Lib.runeCells_length] at hl4
              have se := bs_size (Lib.encodeRune rn)
              have hw1 : ((N : Int) == 0) = false := beq_eq_false_iff_ne.2 hw0
              have hcat : ¬ 9223372036854775807 < (bs acc).size + (bs (Lib.encodeRune rn)).size := by omega
              have HG2 := Lib.hid hg
              clear hg hw0 p2 hes
              go_wp2_with fail
              refine (CE.out _).mono ?_
              rintro e w1 ⟨rfl, hb1⟩
              have HW1 := Lib.hid (HW.out.trans (hb1.mono hz))
              clear hb1
              go_wp2_with fail
              go_roundw
              case rel => exact ⟨i + N, g, acc ++ Lib.encodeRune rn, by first | rw [bs_append] | (congr 1; exact (bs_append _ _)) | rfl, by go_num, by omega, by rw [List.length_append]; omega, by omega, HG2.out, HW1.out⟩
              case measure => simp [RowKit.intOf]; omega
          · rw [beq_eq_false_iff_ne.2 h92] at T92
            have hc92 : ¬ l[i]'hlt = 92 := by rw [← hge2]; exact h92
            have hdec := decodeL_drop (bs l) i
            rw [bs_data] at hdec
            have hpl := partL_plain (l.drop (i + 1)) (l[i]'hlt) hc92 (goodB (bs l) i) (by
              rw [← hdr, hdec]
              unfold goodB runeI widN
              rw [Bool.eq_iff_iff]; simp; omega)
            rw [← hdr, hdec] at hpl
            have CG := Lib.hid (fun w => good_at (bs l) i w hlt' (by omega))
            have CN := Lib.hid (fun w => refNext_at (bs l) i w hlt' (by omega))
            have hwb := widN_bd (bs l) i hlt'
            have hge3 : (l[i]'hlt).toNat = ((bs l)[i]'hlt').toNat := by rw [hge2]
            rw [hge3] at hpl
            obtain ⟨RU, hRU⟩ : ∃ RU, runeI (bs l) i = RU := ⟨_, rfl⟩
            obtain ⟨WD, hWD⟩ : ∃ WD, widN (bs l) i = WD := ⟨_, rfl⟩
            obtain ⟨GB, hGB⟩ : ∃ GB, goodB (bs l) i = GB := ⟨_, rfl⟩
            have e1 : ((Utf8.decode (bs l) i).1 : Int) = RU := hRU
            have e2 : (Utf8.decode (bs l) i).2 = WD := hWD
            rw [e1, e2, hGB] at hpl
            rw [hGB] at CG
            rw [hRU, hWD] at CN
            rw [hWD] at hwb
            obtain ⟨hp1, hp2⟩ := hpl
            clear hdec hRU hWD hGB e1 e2 hc92 hge3 hdr hge hge2 hq hne h92 hpb
            by_cases hb32 : ((bs l)[i]'hlt').toNat < 32 ∨ GB = false
            · have hP := hp1 hb32
              rw [hP, if_pos rfl] at hg
              have HF := Lib.hid hg
              clear hg hP hp1 hp2
              by_cases h3 : (((bs l)[i]'hlt').toNat : Int) < 32
              · clear hb32
                go_wp2_with (go_at_call 40; refine (CG.out _).mono ?_; rintro e w' ⟨rfl, rfl⟩)
                go_ret3
                exact ⟨by rw [← HF.out]; rfl, HW.out⟩
              · have : GB = false := hb32.resolve_left (by omega)
                subst this
                clear hb32
                go_wp2_with (go_at_call 40; refine (CG.out _).mono ?_; rintro e w' ⟨rfl, rfl⟩)
                go_ret3
                exact ⟨by rw [← HF.out]; rfl, HW.out⟩
            · have h3 : ¬ (((bs l)[i]'hlt').toNat : Int) < 32 := by omega
              have hGt : GB = true := by cases GB with | true => rfl | false => exact absurd (.inr rfl) hb32
              subst hGt
              obtain ⟨hP, hEn⟩ := hp2 (by omega) rfl
              rw [hP] at hg
              simp only [] at hg
              rw [if_neg (by omega), Int.toNat_natCast, List.drop_drop, hEn] at hg
              have HG2 := Lib.hid hg
              have hsl : (bs l).extract i (i + WD) = bs ((l.drop i).take WD) := by
                apply ByteArray.ext
                apply Array.ext'
                simp [bs, List.drop_take]
              have stk := bs_size ((l.drop i).take WD)
              rw [List.length_take, List.length_drop] at stk
              have hcat : ¬ 9223372036854775807 < (bs acc).size + (bs ((l.drop i).take WD)).size := by omega
              clear hb32 hg hP hEn hp1 hp2
              go_wp2_with (go_at_call 40; refine (CG.out _).mono ?_; rintro e w' ⟨rfl, rfl⟩)
              refine (CN.out _).mono ?_
              rintro e w' ⟨rfl, rfl⟩
              go_wp2_with fail
              go_roundw
              case rel => exact ⟨i + WD, g, acc ++ (l.drop i).take WD, by congr 1 <;> first | rw [hsl, bs_append] | rw [hsl] | rfl, by go_num, by omega, by rw [List.length_append, List.length_take, List.length_drop]; omega, by omega, HG2.out, HW.out⟩
              case measure => simp [RowKit.intOf]; omega
      · have hg := HG.out
        rw [List.drop_of_length_le (by omega)] at hg
        have HF := Lib.hid (show ([], (i : Int), 2) = R from hg)
        obtain rfl : i = l.length := by omega
        clear hg HG
        go_wp2_with fail
        go_ret3
        exact ⟨by rw [← HF.out]; rfl, HW.out⟩
  · rw [if_neg (fun h => h34 h.2)] at hR
    subst hR
    by_cases hal : a < l.length
    · have hal' : a < (bs l).size := by omega
      have t1 : ((((bs l)[a]'hal').toNat : Int) != 34) = true := by
        rw [bne_iff_ne]
        intro h
        refine h34 ?_
        rw [at_bs l a hal']
        congr 1
        exact UInt8.toNat_inj.1 (by have : ((34 : UInt8).toNat) = 34 := rfl; omega)
      clear h34
      go_enter Tryz.func69, Tryz.ntmps69
      go_wp2_with fail
      go_ret3
      exact ⟨rfl, Below.refl _ _⟩
    · obtain rfl : a = l.length := by omega
      clear h34
      go_enter Tryz.func69, Tryz.ntmps69
      go_wp2_with fail
      go_ret3
      exact ⟨rfl, Below.refl _ _⟩
end Go.Proofs.YtfklmopnifkieaaGreatDoor
