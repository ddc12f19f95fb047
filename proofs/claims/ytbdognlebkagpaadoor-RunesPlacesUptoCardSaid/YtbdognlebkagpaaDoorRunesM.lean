import Derived.Test.YtbdognlebkagpaaDoorRunesL
import Derived.Lib.MapLaws
namespace Go.Proofs.YtbdognlebkagpaaDoor
open Go.RowKit
open Go.Lib hiding intOf

/-! The laws' walks: RunesPlaces, RunesSteps. -/
def placeRes (s : ByteArray) (q : Int) : Int × Int × Bool := if q < 0 ∨ (s.size : Int) < q then (0, 0, false) else ((lineNo s q.toNat : Int) + 1, (colOf s q.toNat : Int), true)
theorem placeRes_in {s : ByteArray} {q : Nat} (h : q ≤ s.size) : placeRes s q = ((lineNo s q : Int) + 1, (colOf s q : Int), true) := by
  unfold placeRes; rw [if_neg (by omega)]; rfl
theorem placeRes_out {s : ByteArray} {q : Int} (h : q < 0 ∨ (s.size : Int) < q) : placeRes s q = (0, 0, false) := by unfold placeRes; rw [if_pos h]
def Triple (R : Int × Int × Bool) : Ending := .returned (.tuple #[.int .i64 R.1, .int .i64 R.2.1, .bool R.2.2])
set_option maxHeartbeats 400000 in
theorem place_any (s : ByteArray) (q : Int) (w : World) (hs : s.size ≤ 4294967000) (hT : Tabs w) :
    Calls Tryd.prog 9 #[.string s, .int .i64 q] w fun e w' => e = Triple (placeRes s q) ∧ Below w.heap.size w w' := by
  by_cases h : q < 0 ∨ (s.size : Int) < q
  · rw [placeRes_out h]
    have h1 : ¬ q < 0 → (s.size : Int) < q := fun _ => by omega
    clear h
    by_cases h0 : q < 0
    all_goals
      first | (have h2 := h1 h0) | skip
      clear h1
      go_enter Tryd.func9, Tryd.ntmps9
      go_wp2_with fail
      all_goals go_ret3
      all_goals exact ⟨rfl, Below.refl _ _⟩
  · obtain ⟨k, rfl⟩ : ∃ k : Nat, q = k := ⟨q.toNat, by omega⟩
    rw [placeRes_in (by omega)]
    exact place_at s k w (by omega) hs hT
set_option maxHeartbeats 400000 in
theorem refPlace_any (s : ByteArray) (q : Int) (w : World) (hs : s.size ≤ 4294967000) :
    Calls Tryd.prog 10 #[.string s, .int .i64 q] w fun e w' => e = Triple (placeRes s q) ∧ Below w.heap.size w w' := by
  by_cases h : q < 0 ∨ (s.size : Int) < q
  · rw [placeRes_out h]
    have h1 : ¬ q < 0 → (s.size : Int) < q := fun _ => by omega
    clear h
    by_cases h0 : q < 0
    all_goals
      first | (have h2 := h1 h0) | skip
      clear h1
      go_enter Tryd.func10, Tryd.ntmps10
      go_wp2_with fail
      all_goals go_ret3
      all_goals exact ⟨rfl, Below.refl _ _⟩
  · obtain ⟨k, rfl⟩ : ∃ k : Nat, q = k := ⟨q.toNat, by omega⟩
    rw [placeRes_in (by omega)]
    exact refPlace_at s k w (by omega) hs

set_option maxHeartbeats 2000000 in
theorem runesPlaces_walk (s : ByteArray) (q line col : Int) (w : World) (hs : s.size ≤ 4294967000) (hT : Tabs w) :
    Calls Tryd.prog 3 #[.string s, .int .i64 q, .int .i64 line, .int .i64 col] w fun e w' => e = .returned (.bool true) ∧ Below w.heap.size w w' := by
  have c1 := fun (w : World) hT => place_any s q w hs hT
  have c2 := fun (w : World) => refPlace_any s q w hs
  have c3 := fun (w : World) => at_any s line col w hs
  have c4 := fun (w : World) => refAt_any s line col w hs
  obtain ⟨a, b, x⟩ := placeRes s q
  obtain ⟨y, z⟩ := atRes s line col
  have C1 := Lib.hid c1; have C2 := Lib.hid c2; have C3 := Lib.hid c3; have C4 := Lib.hid c4
  clear c1 c2 c3 c4
  go_enter Tryd.func3, Tryd.ntmps3
  go_wp2_with fail
  refine (small_any _ hT).mono ?_
  rintro e w1 ⟨rfl, hb1⟩
  have HB1 := Lib.hid hb1
  have hT1 := hT.keep hb1
  clear hb1
  go_wp2_with fail
  refine (C1.out _ hT1).mono ?_
  rintro e w2 ⟨rfl, hb2⟩
  unfold Triple
  have HB2 := Lib.hid (below_of_new HB1.out hb2)
  clear hb2 hT1
  go_wp2_with fail
  refine (C2.out _).mono ?_
  rintro e w3 ⟨rfl, hb3⟩
  unfold Triple
  have HB3 := Lib.hid (below_of_new HB2.out hb3)
  clear hb3
  go_wp2_with fail
  refine (C3.out _).mono ?_
  rintro e w4 ⟨rfl, hb4⟩
  have HB4 := Lib.hid (below_of_new HB3.out hb4)
  clear hb4
  go_wp2_with fail
  refine (C4.out _).mono ?_
  rintro e w5 ⟨rfl, hb5⟩
  have HB5 := Lib.hid (below_of_new HB4.out hb5)
  clear hb5
  go_wp2_with fail
  go_ret
  exact ⟨rfl, HB5.out⟩

theorem encode_rune (r : Int) : (Utf8.encode r).data.toList = Lib.encodeRune r := by
  unfold Lib.encodeRune
  by_cases hv : Utf8.valid r = true
  · have hv' := hv
    simp [Utf8.valid] at hv'
    obtain ⟨m, rfl⟩ : ∃ m : Nat, r = m := ⟨r.toNat, by omega⟩
    unfold Utf8.encode
    simp only [hv, if_true, Int.toNat_natCast]
    by_cases h1 : m < 128
    · rw [Lib.encodeRuneZ_one (by omega) (by omega), if_pos h1]; rfl
    rw [if_neg h1]
    by_cases h2 : m < 2048
    · rw [Lib.encodeRuneZ_two (by omega) (by omega), if_pos h2]
      simp only [List.map_cons, List.map_nil]
      rw [show (192 + (m : Int) / 64).toNat = 192 + m / 64 by omega, show (128 + (m : Int) % 64).toNat = 128 + m % 64 by omega]
    rw [if_neg h2]
    by_cases h3 : m < 65536
    · rw [Lib.encodeRuneZ_three (by omega), if_pos h3]
      simp only [List.map_cons, List.map_nil]
      rw [show (224 + (m : Int) / 4096).toNat = 224 + m / 4096 by omega, show (128 + (m : Int) / 64 % 64).toNat = 128 + m / 64 % 64 by omega, show (128 + (m : Int) % 64).toNat = 128 + m % 64 by omega]
    have e4 : Lib.encodeRuneZ (m : Int) = [240 + (m : Int) / 262144, 128 + (m : Int) / 4096 % 64, 128 + (m : Int) / 64 % 64, 128 + (m : Int) % 64] := by
      unfold Lib.encodeRuneZ
      rw [if_neg (by omega), if_neg (by omega), if_neg (by omega), if_pos (by omega)]
    rw [if_neg h3, e4]
    simp only [List.map_cons, List.map_nil]
    rw [show (240 + (m : Int) / 262144).toNat = 240 + m / 262144 by omega, show (128 + (m : Int) / 4096 % 64).toNat = 128 + m / 4096 % 64 by omega, show (128 + (m : Int) / 64 % 64).toNat = 128 + m / 64 % 64 by omega, show (128 + (m : Int) % 64).toNat = 128 + m % 64 by omega]
  · have hv' := hv
    simp [Utf8.valid] at hv'
    have e : Utf8.valid r = false := by simpa using hv
    have e5 : Lib.encodeRuneZ r = [239, 191, 189] := by
      unfold Lib.encodeRuneZ
      rw [if_neg (by omega), if_neg (by omega), if_neg (by omega), if_neg (by omega)]
    rw [e5]
    unfold Utf8.encode
    simp only [e, Utf8.runeError, Bool.false_eq_true, if_false]
    decide
theorem encode_good (s : ByteArray) (p : Nat) (hp : p < s.size) (hg : goodB s p = true) : ((Utf8.encode (runeI s p)).toList == (s.extract p (p + widN s p)).toList) = true := by
  rw [goodB_iff] at hg
  have hg := of_decide_eq_true hg
  rw [← decodeL_drop] at hg
  have hne : s.data.toList.drop p ≠ [] := by
    have hl : s.data.toList.length = s.size := rfl
    rw [Ne, List.drop_eq_nil_iff]; omega
  have h := Lib.encode_decode _ hne hg
  rw [decodeL_drop] at h
  rw [beq_iff_eq, Lib.toList_data, encode_rune, Lib.extract_toList]
  unfold runeI widN
  rw [h, show p + (Utf8.decode s p).2 - p = (Utf8.decode s p).2 by omega]
theorem ba_ext (a b : ByteArray) (h : a.data.toList = b.data.toList) : a = b := by
  cases a; cases b; simp only [ByteArray.mk.injEq]; exact Array.toList_inj.1 h
set_option maxHeartbeats 2000000 in
set_option maxRecDepth 100000 in
theorem runesSteps_walk (s : ByteArray) (w : World) (hs : s.size ≤ 4611686018427387904) (hT : Tabs w) :
    Calls Tryd.prog 7 #[.string s] w fun e w' => e = .returned (.bool true) ∧ Below w.heap.size w w' := by
  have c1 := fun (w : World) hT => valid_any s w hs hT
  obtain ⟨n, is, hV⟩ : ∃ n is, validRes s = (n, is) := ⟨_, _, rfl⟩
  rw [hV] at c1
  have C1 := Lib.hid c1; have HV := Lib.hid hV
  clear c1 hV
  go_enter Tryd.func7, Tryd.ntmps7
  go_wp2_with fail
  refine (small_any _ hT).mono ?_
  rintro e w1 ⟨rfl, hb1⟩
  have HB1 := Lib.hid hb1
  have hT1 := hT.keep hb1
  clear hb1
  go_wp2_with fail
  refine (C1.out _ hT1).mono ?_
  rintro e w2 ⟨rfl, hb2⟩
  have HB2 := Lib.hid (below_of_new HB1.out hb2)
  have hT2 := hT1.keep hb2
  clear hb2 hT1
  go_wp2_with fail
  go_loopw [6] (fun a wr => ∃ p : Nat, p ≤ s.size ∧ a = .int .i64 p ∧ Hid (Bads s p) ∧ Hid (Below w.heap.size w wr)) (fun a _ => s.size - (RowKit.intOf a).toNat)
  case atStart => exact ⟨0, by omega, rfl, Bads.zero s, HB2.out⟩
  case round =>
    obtain ⟨p, hp, rfl, HB, HW⟩ := hrel
    by_cases hlt : p < s.size
    · have hTr := hT.keep HW.out
      have hw := widN_bd s p hlt
      have hrb := runeI_bd s p
      have hnx := next_at s p wr hlt hTr
      cases hg : goodB s p with
      | true =>
        have HN := Lib.hid (HB.out.next hlt hg)
        have henc := encode_good s p hlt hg
        have hor : runeI s p = 65533 → widN s p ≠ 1 := fun h1 h2 => by rw [goodB_no h1 h2] at hg; cases hg
        clear hg
        generalize runeI s p = c at *
        generalize widN s p = k at *
        have HNX := Lib.hid hnx; clear hnx
        by_cases hc : c = 65533
        · have hk := hor hc
          have hcB : (c == 65533) = true := beq_iff_eq.2 hc
          have hkB : ((k : Int) == 1) = false := beq_eq_false_iff_ne.2 (by omega)
          clear hor hc hk
          go_wp2_with (go_at_call 16; go_must (refine HNX.out.mono ?_); rintro e w3 ⟨rfl, hb3⟩)
          go_roundw
          case rel => exact ⟨p + k, by omega, by go_num, HN.out, below_of_new HW.out hb3⟩
          case measure => simp [RowKit.intOf]; omega
        · have hcB : (c == 65533) = false := beq_eq_false_iff_ne.2 hc
          clear hor hc
          go_wp2_with (go_at_call 16; go_must (refine HNX.out.mono ?_); rintro e w3 ⟨rfl, hb3⟩)
          go_roundw
          case rel => exact ⟨p + k, by omega, by go_num, HN.out, below_of_new HW.out hb3⟩
          case measure => simp [RowKit.intOf]; omega
      | false =>
        have h := HV.out.symm.trans (HB.out.bad hlt hg)
        injection h with h1 h2
        subst h1 h2
        have hgg : (runeI s p == 65533) = true ∧ ((widN s p : Int) == 1) = true := by
          unfold goodB at hg; simpa using hg
        obtain ⟨hcB, hkB⟩ := hgg
        clear hg
        generalize runeI s p = c at *
        generalize widN s p = k at *
        have HNX := Lib.hid hnx; clear hnx
        go_wp2_with (go_at_call 16; go_must (refine HNX.out.mono ?_); rintro e w3 ⟨rfl, hb3⟩)
        go_ret
        exact ⟨rfl, below_of_new HW.out hb3⟩
    · have h := HV.out.symm.trans (HB.out.fin (by omega))
      injection h with h1 h2
      subst h1 h2
      go_wp2_with fail
      go_ret
      exact ⟨rfl, HW.out⟩
end Go.Proofs.YtbdognlebkagpaaDoor
