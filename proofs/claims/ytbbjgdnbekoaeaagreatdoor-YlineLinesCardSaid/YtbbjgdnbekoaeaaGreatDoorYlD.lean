import Derived.Test.YtbbjgdnbekoaeaaGreatDoorYlC
import Derived.Test.YtbbjgdnbekoaeaaGreatDoorShelfB
/-! The walk of yline.Single: it returns sqL. -/
namespace Go.Proofs.YtbbjgdnbekoaeaaGreatDoor
set_option linter.unusedSimpArgs false
set_option linter.unusedVariables false
open Go.RowKit
open Go.Lib hiding intOf

theorem sqGo_len : ∀ (f : Nat) (l : List UInt8) (i : Nat) (acc : List UInt8), (sqGo f l i acc).1.length ≤ acc.length + l.length
  | 0, _, _, _ => by simp [sqGo]
  | _ + 1, [], _, _ => by simp [sqGo]
  | f + 1, c :: r, i, acc => by
    rw [sqGo_cons]
    split
    · split
      · have := sqGo_len f (r.drop 1) (i + 2) (acc ++ [39])
        rw [List.length_drop, List.length_append] at this
        simp only [List.length_cons, List.length_nil] at this ⊢
        rename_i h
        have : 0 < r.length := by cases r with | nil => simp at h | cons _ _ => simp
        omega
      · simp only []; omega
    · split
      · simp
      · have hle := decodeL_le (c :: r) (List.cons_ne_nil _ _)
        have := sqGo_len f ((c :: r).drop (decodeL (c :: r)).2) (i + (decodeL (c :: r)).2) (acc ++ (c :: r).take (decodeL (c :: r)).2)
        rw [List.length_drop, List.length_append, List.length_take, Nat.min_eq_left hle] at this
        omega
theorem plain_parts (l : List UInt8) (i : Nat) (hi : i < l.length) (h : plainB (decodeL (l.drop i)) = false) :
    okRune (runeI (bs l) i) ∧ 32 ≤ runeI (bs l) i ∧ encodeRune (runeI (bs l) i) = (l.drop i).take (widN (bs l) i) ∧ (runeI (bs l) i = 65533 → ¬ ((widN (bs l) i : Nat) : Int) = 1) := by
  have hne : l.drop i ≠ [] := by rw [List.drop_eq_getElem_cons hi]; exact List.cons_ne_nil _ _
  have hd := decodeL_drop (bs l) i
  rw [bs_data] at hd
  have hp2 := h
  unfold plainB at hp2
  simp only [Bool.or_eq_false_iff, decide_eq_false_iff_not, Bool.and_eq_false_iff, beq_eq_false_iff_ne] at hp2
  have he := encode_decode (l.drop i) hne (by omega)
  have hk := decode_okRune (l.drop i)
  rw [hd] at he hk hp2
  exact ⟨hk, by unfold runeI; omega, he, fun hr => by unfold runeI at hr; unfold widN; omega⟩
theorem plain_bad (l : List UInt8) (i : Nat) (hi : i < l.length) (h : plainB (decodeL (l.drop i)) = true) :
    runeI (bs l) i < 32 ∨ (runeI (bs l) i = 65533 ∧ widN (bs l) i = 1) := by
  have hd := decodeL_drop (bs l) i
  rw [bs_data] at hd
  rw [hd] at h
  unfold plainB at h
  simp only [Bool.or_eq_true, decide_eq_true_eq, Bool.and_eq_true, beq_iff_eq] at h
  unfold runeI widN
  omega
theorem pre39 (l : List UInt8) : Lib.hasPrefix l [39] = (l.head? == some 39) := by
  unfold Lib.hasPrefix
  cases l with
  | nil => rfl
  | cons c r =>
    rw [Bool.eq_iff_iff]
    simp [List.isPrefixOf]
    exact eq_comm
set_option maxRecDepth 100000 in
set_option maxHeartbeats 4000000 in
theorem single_any (l : List UInt8) (a : Int) (w : World) (hs : l.length ≤ 1073741824) (hT : Tabs w) :
    Calls Tryz.prog 20 #[.string (bs l), .int .i64 a] w fun e w' => e = ReadE (sqL l a) ∧ Below w.heap.size w w' := by
  have sl := bs_size l
  obtain ⟨R, hR⟩ : ∃ R, sqL l a = R := ⟨_, rfl⟩
  rw [hR]
  unfold sqL at hR
  have HT := Lib.hid hT; clear hT
  by_cases hout : a < 0 ∨ (l.length : Int) < a
  · rw [if_pos hout] at hR
    subst hR
    rcases hout with h | h
    · go_enter Tryz.func20, Tryz.ntmps20
      go_wp2_with fail
      go_ret3
      exact ⟨rfl, Below.refl _ _⟩
    · have hn : ¬ a < 0 := by omega
      go_enter Tryz.func20, Tryz.ntmps20
      go_wp2_with fail
      go_ret3
      exact ⟨rfl, Below.refl _ _⟩
  rw [if_neg hout] at hR
  obtain ⟨k, rfl⟩ : ∃ k : Nat, a = k := ⟨a.toNat, by omega⟩
  rw [Int.toNat_natCast] at hR
  have hk0 : decide ((k : Int) < 0) = false := decide_eq_false (by omega)
  have hk1 : decide (l.length < k) = false := decide_eq_false (by omega)
  have hk2 : k ≤ l.length := by omega
  clear hout
  by_cases h39 : l[k]? = some 39
  · rw [if_pos h39] at hR
    have hkl : k < l.length := (List.getElem?_eq_some_iff.1 h39).1
    have hkl' : k < (bs l).size := by omega
    have t1 : ((((bs l)[k]'hkl').toNat : Int) != 39) = false := by
      have := at_bs l k hkl'
      rw [h39] at this
      have h2 : (bs l)[k]'hkl' = 39 := by simpa using this.symm
      rw [h2]; rfl
    have t2 : ((k : Int) == (l.length : Int)) = false := beq_eq_false_iff_ne.2 (by omega)
    have HR := Lib.hid hR; clear hR h39
    go_enter Tryz.func20, Tryz.ntmps20
    go_wp2_with fail
    go_loopw [1, 8, 9] (fun s1 _ _ wr => ∃ (i f : Nat) (acc : List UInt8), s1 = .int .i64 i ∧ i ≤ l.length ∧ acc.length ≤ i ∧ l.length < i + f ∧ Hid (sqGo f (l.drop i) i acc = R) ∧ Hid (Bld w.heap.size w.heap.size acc wr) ∧ Hid (Below w.heap.size w wr)) (fun s1 _ _ _ => l.length - (RowKit.intOf s1).toNat)
    case atStart => exact ⟨k + 1, l.length + 1, [], by go_num, by omega, by simp, by omega, HR.out, Bld.new w, below_alloc1 w _⟩
    case round =>
      obtain ⟨i, f, acc, rfl, hi, hacc, hf, HG, HBd, HW⟩ := hrel
      obtain ⟨g, rfl⟩ : ∃ g, f = g + 1 := ⟨f - 1, by omega⟩
      by_cases hlt : i < l.length
      · have hlt' : i < (bs l).size := by omega
        have hdr : l.drop i = l[i]'hlt :: l.drop (i + 1) := List.drop_eq_getElem_cons hlt
        have hdd := decodeL_drop (bs l) i
        rw [bs_data] at hdd
        have hg := HG.out
        rw [hdr, sqGo_cons, ← hdr] at hg
        have hwb := widN_bd (bs l) i hlt'
        have hrb := runeI_bd (bs l) i
        have CD := Lib.hid (fun w hT => dec_l l i w hlt hT)
        have hz : w.heap.size ≤ wr.heap.size := HW.out.size
        have hpl := plain_parts l i hlt
        have hpb := plain_bad l i hlt
        have hw2 : (decodeL (l.drop i)).2 = widN (bs l) i := by rw [hdd]; rfl
        have h39r : l[i]'hlt = 39 → runeI (bs l) i = 39 ∧ widN (bs l) i = 1 := fun h => by
          have h1 := decodeL_ascii 39 (l.drop (i + 1)) (by decide)
          rw [hdr, h] at hdd
          rw [h1] at hdd
          unfold runeI widN
          rw [← hdd]; exact ⟨rfl, rfl⟩
        have hr39 : l[i]'hlt ≠ 39 → plainB (decodeL (l.drop i)) = false → runeI (bs l) i ≠ 39 := fun h hp e => by
          obtain ⟨q1, q2, q3, _⟩ := hpl hp
          rw [e, enc39] at q3
          have hwp := hwb.1
          rw [hdr] at q3
          obtain ⟨z, hz⟩ : ∃ z, widN (bs l) i = z + 1 := ⟨widN (bs l) i - 1, by omega⟩
          rw [hz, List.take_succ_cons] at q3
          injection q3 with q3 _
          exact h q3.symm
        rw [hw2] at hg
        obtain ⟨rn, hrn⟩ : ∃ rn, runeI (bs l) i = rn := ⟨_, rfl⟩
        obtain ⟨wd, hwd⟩ : ∃ wd, widN (bs l) i = wd := ⟨_, rfl⟩
        rw [hrn] at CD hrb hpl hpb h39r hr39
        rw [hwd] at CD hwb hpl hpb h39r hg
        by_cases hc : l[i]'hlt = 39
        · rw [if_pos hc] at hg
          obtain ⟨e1, e2⟩ := h39r hc
          subst e1 e2
          obtain ⟨P, hP⟩ : ∃ P, Lib.hasPrefix (l.drop (i + 1)) [39] = P := ⟨_, rfl⟩
          have CP : Hid (∀ w, Calls Tryz.prog 38 #[.string ((bs l).extract (i + 1) l.length), .string ⟨#[39]⟩] w fun e w' => e = .returned (.bool P) ∧ w = w') := Lib.hid (fun w => by
            have := Tryz.strings_HasPrefix ((bs l).extract (i + 1) l.length) ⟨#[39]⟩ w
            rw [bs_from _ _ _ rfl, bs_data, show (⟨#[39]⟩ : ByteArray).data.toList = [39] from rfl, hP] at this
            rw [bs_from _ _ _ rfl]
            exact this.mono fun _ _ ⟨a, b⟩ => ⟨a, b.symm⟩)
          rw [pre39] at hP
          clear hdr hdd hpl hpb hw2 h39r hr39 hrn hwd hc
          have hi1 : (i : Int) + 1 ≤ (l.length : Int) := by omega
          cases P with
          | false =>
            rw [if_neg (by simpa using hP)] at hg
            have HF := Lib.hid hg
            clear hg hP
            go_wp2_with fail
            with_reducible refine (CD.out _ (HT.out.keep HW.out)).mono ?_
            rintro e w1 ⟨rfl, hb1⟩
            have HBd1 := Lib.hid (HBd.out.keep hb1)
            have HW1 := Lib.hid (below_of_new HW.out hb1)
            clear hb1
            go_wp2_with (go_at_call 38; refine (CP.out _).mono ?_; rintro e w' ⟨rfl, rfl⟩)
            refine (Tryz.Builder_String_any_k w.heap.size w.heap.size acc _ HBd1.out HW1.out.size).mono ?_
            rintro e W1 ⟨rfl, _, b1, _⟩
            go_wp2_with fail
            go_ret3
            exact ⟨by rw [← HF.out]; rfl, HW1.out.trans b1⟩
          | true =>
            have hP' := beq_iff_eq.1 hP
            rw [if_pos hP', List.drop_drop] at hg
            have hi2 : i + 1 < l.length := by
              rw [List.head?_drop] at hP'
              exact (List.getElem?_eq_some_iff.1 hP').1
            have HG2 := Lib.hid hg
            clear hg hP hP'
            go_wp2_with fail
            with_reducible refine (CD.out _ (HT.out.keep HW.out)).mono ?_
            rintro e w1 ⟨rfl, hb1⟩
            have HBd1 := Lib.hid (HBd.out.keep hb1)
            have HW1 := Lib.hid (below_of_new HW.out hb1)
            clear hb1
            go_wp2_with (go_at_call 38; refine (CP.out _).mono ?_; rintro e w' ⟨rfl, rfl⟩)
            refine (writeRune_any w.heap.size w.heap.size acc 39 _ HBd1.out ⟨by omega, by omega⟩ (by omega) HW1.out.size).mono ?_
            rintro e w2 ⟨rfl, h2, b2, _⟩
            rw [enc39] at h2
            have HBd2 := Lib.hid h2
            have HW2 := Lib.hid (HW1.out.trans b2)
            clear h2 b2
            go_wp2_with fail
            go_roundw
            case rel => exact ⟨i + 2, g, acc ++ [39], by go_num, by omega, by simp; omega, by omega, HG2.out, HBd2.out, HW2.out⟩
            case measure => simp [RowKit.intOf]; omega
        · rw [if_neg hc] at hg
          cases hp : plainB (decodeL (l.drop i)) with
          | true =>
            rw [hp, if_pos rfl] at hg
            have HF := Lib.hid hg
            have hb := hpb hp
            clear hg hp hpb hpl hdr hdd hw2 h39r hr39 hrn hwd hc
            by_cases h32 : rn < 32
            · clear hb
              go_wp2_with fail
              with_reducible refine (CD.out _ (HT.out.keep HW.out)).mono ?_
              rintro e w1 ⟨rfl, hb1⟩
              go_wp2_with fail
              go_ret3
              exact ⟨by rw [← HF.out]; rfl, below_of_new HW.out hb1⟩
            · obtain ⟨b1, b2⟩ := hb.resolve_left h32
              have d32 : decide (rn < 32) = false := decide_eq_false h32
              have t3 : (rn == 65533) = true := beq_iff_eq.2 b1
              have t4 : (((wd : Nat) : Int) == 1) = true := beq_iff_eq.2 (by omega)
              clear hb b1 b2
              go_wp2_with fail
              with_reducible refine (CD.out _ (HT.out.keep HW.out)).mono ?_
              rintro e w1 ⟨rfl, hb1⟩
              go_wp2_with fail
              go_ret3
              exact ⟨by rw [← HF.out]; rfl, below_of_new HW.out hb1⟩
          | false =>
            rw [hp, if_neg (by simp), List.drop_drop] at hg
            obtain ⟨q1, q2, q3, q4⟩ := hpl hp
            have hn39 := hr39 hc hp
            rw [← q3] at hg
            have hel : (encodeRune rn).length ≤ wd := by rw [q3, List.length_take]; omega
            have HG2 := Lib.hid hg
            have q10 := q1.1
            have q11 := q1.2.1
            have d32 : decide (rn < 32) = false := decide_eq_false (by omega)
            have t39 : (rn == 39) = false := beq_eq_false_iff_ne.2 hn39
            have t5 : (rn == 65533 && ((wd : Nat) : Int) == 1) = false := by
              by_cases hx : rn = 65533
              · rw [beq_eq_false_iff_ne.2 (q4 hx), Bool.and_false]
              · rw [beq_eq_false_iff_ne.2 hx]; rfl
            clear hg hp hpb hpl hdr hdd hw2 h39r hr39 hrn hwd hc q1 q3 hn39
            by_cases hx : rn = 65533
            · have t3 : (rn == 65533) = true := beq_iff_eq.2 hx
              have t4 : (((wd : Nat) : Int) == 1) = false := beq_eq_false_iff_ne.2 (q4 hx)
              clear q4 hx t5
              go_wp2_with fail
              with_reducible refine (CD.out _ (HT.out.keep HW.out)).mono ?_
              rintro e w1 ⟨rfl, hb1⟩
              have HBd1 := Lib.hid (HBd.out.keep hb1)
              have HW1 := Lib.hid (below_of_new HW.out hb1)
              clear hb1
              go_wp2_with fail
              refine (writeRune_any w.heap.size w.heap.size acc rn _ HBd1.out ⟨q10, q11⟩ (by omega) HW1.out.size).mono ?_
              rintro e w2 ⟨rfl, h2, b2, _⟩
              have HBd2 := Lib.hid h2
              have HW2 := Lib.hid (HW1.out.trans b2)
              clear h2 b2
              go_wp2_with fail
              go_roundw
              case rel => exact ⟨i + wd, g, acc ++ encodeRune rn, by go_num, by omega, by rw [List.length_append]; omega, by omega, HG2.out, HBd2.out, HW2.out⟩
              case measure => simp [RowKit.intOf]; omega
            · have t3 : (rn == 65533) = false := beq_eq_false_iff_ne.2 hx
              clear q4 hx t5
              go_wp2_with fail
              with_reducible refine (CD.out _ (HT.out.keep HW.out)).mono ?_
              rintro e w1 ⟨rfl, hb1⟩
              have HBd1 := Lib.hid (HBd.out.keep hb1)
              have HW1 := Lib.hid (below_of_new HW.out hb1)
              clear hb1
              go_wp2_with fail
              refine (writeRune_any w.heap.size w.heap.size acc rn _ HBd1.out ⟨q10, q11⟩ (by omega) HW1.out.size).mono ?_
              rintro e w2 ⟨rfl, h2, b2, _⟩
              have HBd2 := Lib.hid h2
              have HW2 := Lib.hid (HW1.out.trans b2)
              clear h2 b2
              go_wp2_with fail
              go_roundw
              case rel => exact ⟨i + wd, g, acc ++ encodeRune rn, by go_num, by omega, by rw [List.length_append]; omega, by omega, HG2.out, HBd2.out, HW2.out⟩
              case measure => simp [RowKit.intOf]; omega
      · have hg := HG.out
        rw [List.drop_of_length_le (by omega)] at hg
        have HF := Lib.hid (show ([], (i : Int), 2) = R from hg)
        obtain rfl : i = l.length := by omega
        clear hg HG
        go_wp2_with fail
        go_ret3
        exact ⟨by rw [← HF.out]; rfl, HW.out⟩
  · rw [if_neg h39] at hR
    subst hR
    by_cases hkl : k < l.length
    · have hkl' : k < (bs l).size := by omega
      have t1 : ((((bs l)[k]'hkl').toNat : Int) != 39) = true := by
        rw [bne_iff_ne]
        intro h
        apply h39
        rw [at_bs l k hkl']
        have : ((bs l)[k]'hkl') = 39 := UInt8.toNat_inj.1 (by show _ = 39; omega)
        rw [this]
      have t2 : ((k : Int) == (l.length : Int)) = false := beq_eq_false_iff_ne.2 (by omega)
      clear h39
      go_enter Tryz.func20, Tryz.ntmps20
      go_wp2_with fail
      go_ret3
      exact ⟨rfl, Below.refl _ _⟩
    · obtain rfl : k = l.length := by omega
      clear h39 hkl
      go_enter Tryz.func20, Tryz.ntmps20
      go_wp2_with fail
      go_ret3
      exact ⟨rfl, Below.refl _ _⟩
end Go.Proofs.YtbbjgdnbekoaeaaGreatDoor
