import Derived.Test.YtfklmopnifkieaaGreatDoorQuoF
import Derived.Test.YtfklmopnifkieaaGreatDoorRnB
/-! The walk of scarfref03.escape. -/
namespace Go.Proofs.YtfklmopnifkieaaGreatDoor
set_option linter.unusedSimpArgs false
set_option linter.unusedVariables false
open Go.RowKit
open Go.Lib hiding intOf

def encS (r : Int × Int) : ByteArray := if r.2 = 0 then ⟨#[]⟩ else Utf8.encode r.1
def tabA : ByteArray := ⟨#[34, 92, 47, 98, 102, 110, 114, 116]⟩
def tabB : ByteArray := ⟨#[34, 92, 47, 8, 12, 10, 13, 9]⟩
theorem tab_all : ∀ k : Fin 8, (meantI ((tabA[k.val]'(by have := k.isLt; exact this)).toNat : Int)).2 = true ∧ (tabB.extract k.val (k.val + 1)).data = (Utf8.encode (meantI ((tabA[k.val]'(by have := k.isLt; exact this)).toNat : Int)).1).data := by decide
theorem tab_hit (k : Nat) (hk : k < tabA.size) (c : UInt8) (h : c = tabA[k]) : ∃ r : Int, meantI (c.toNat : Int) = (r, true) ∧ tabB.extract k (k + 1) = Utf8.encode r := by
  subst h
  have h8 : k < 8 := hk
  have := tab_all ⟨k, h8⟩
  exact ⟨_, Prod.ext rfl this.1, ByteArray.ext this.2⟩
set_option maxRecDepth 100000 in
theorem tab_miss : ∀ n : Fin 256, (∀ j : Fin 8, (tabA[j.val]'(by have := j.isLt; exact this)).toNat ≠ n.val) → (meantI (n.val : Int)).2 = false := by decide
theorem tab_none (c : UInt8) (h : ∀ j, (hj : j < tabA.size) → c ≠ tabA[j]) : (meantI (c.toNat : Int)).2 = false := by
  refine tab_miss ⟨c.toNat, c.toNat_lt⟩ fun j e => h j.val j.isLt ?_
  exact (UInt8.toNat_inj.1 e).symm
theorem below_drew1 {B : Nat} {a w : World} (h : RowKit.Below B a w) : RowKit.Below B a w.drew := ⟨h.os, h.tape, h.output, h.size, h.block⟩
def RefW (r : Int × Int) : Ending := .returned (.tuple #[.string (encS r), .int .i64 r.2])
theorem escL_at (s : ByteArray) (a : Nat) (h : a + 1 < s.size) : escL (s.data.toList.drop a) = if (meantI (s[a + 1].toNat : Int)).2 then ((meantI (s[a + 1].toNat : Int)).1, 2) else if s[a + 1].toNat = 117 then uniL (s.data.toList.drop a) else (0, 0) := by
  have hl : s.data.toList.length = s.size := rfl
  unfold escL
  rw [List.getElem?_drop, List.getElem?_eq_getElem (by rw [hl]; exact h)]
  rfl
theorem pre_at (s : ByteArray) (a : Nat) : Lib.hasPrefix ((s.data.toList.drop a).drop 6) [92, 117] = true ↔ ∃ h : a + 7 < s.size, (s[a + 6]'(by omega)).toNat = 92 ∧ s[a + 7].toNat = 117 := by
  have hl : s.data.toList.length = s.size := rfl
  unfold Lib.hasPrefix
  rw [List.isPrefixOf_iff_prefix, List.drop_drop]
  constructor
  · rintro ⟨t, ht⟩
    have hlen := congrArg List.length ht
    rw [List.length_drop, hl] at hlen
    simp at hlen
    have h : a + 7 < s.size := by omega
    refine ⟨h, ?_, ?_⟩
    · have := congrArg (fun l => l[0]?) ht
      simp only [List.getElem?_drop] at this
      rw [List.getElem?_eq_getElem (show a + 6 + 0 < s.data.toList.length by rw [hl]; omega)] at this
      have e : s[a + 6]'(by omega) = s.data.toList[a + 6 + 0]'(by rw [hl]; omega) := rfl
      rw [e, ← Option.some.inj this]; rfl
    · have := congrArg (fun l => l[1]?) ht
      simp only [List.getElem?_drop] at this
      rw [List.getElem?_eq_getElem (show a + 6 + 1 < s.data.toList.length by rw [hl]; omega)] at this
      have e : s[a + 7]'(by omega) = s.data.toList[a + 6 + 1]'(by rw [hl]; omega) := rfl
      rw [e, ← Option.some.inj this]; rfl
  · rintro ⟨h, h6, h7⟩
    refine ⟨s.data.toList.drop (a + 8), ?_⟩
    rw [List.drop_eq_getElem_cons (show a + 6 < s.data.toList.length by rw [hl]; omega), List.drop_eq_getElem_cons (show a + 6 + 1 < s.data.toList.length by rw [hl]; omega)]
    have e6 : s.data.toList[a + 6]'(by rw [hl]; omega) = 92 := UInt8.toNat_inj.1 h6
    have e7 : s.data.toList[a + 6 + 1]'(by rw [hl]; omega) = 117 := UInt8.toNat_inj.1 h7
    rw [e6, e7]; rfl
set_option maxRecDepth 100000 in
set_option maxHeartbeats 4000000 in
theorem refEscape_any (s : ByteArray) (a : Nat) (w : World) (ha : a < s.size) (hs : s.size ≤ 1073741824) :
    Calls Tryz.prog 86 #[.string s, .int .i64 a] w fun e w' => e = RefW (escL (s.data.toList.drop a)) ∧ Below w.heap.size w w' := by
  obtain ⟨R, hR⟩ : ∃ R, escL (s.data.toList.drop a) = R := ⟨_, rfl⟩
  rw [hR]
  have hl : s.data.toList.length = s.size := rfl
  by_cases h1 : (s.size : Int) ≤ (a : Int) + 1
  · have : R = (0, 0) := by rw [← hR]; unfold escL; rw [List.getElem?_eq_none (by rw [List.length_drop]; omega)]
    subst this
    clear hR
    go_enter Tryz.func86, Tryz.ntmps86
    go_wp2_with fail
    go_ret2
    exact ⟨rfl, Below.refl _ _⟩
  have hin : a + 1 < s.size := by omega
  have hb : 0 ≤ (a : Int) + 1 ∧ (a : Int) + 1 < (s.size : Int) := by omega
  rw [escL_at s a hin] at hR
  obtain ⟨c, hc⟩ : ∃ c, s[a + 1]'hin = c := ⟨_, rfl⟩
  rw [hc] at hR
  have hci : (s[((a : Int) + 1).toNat]'(by omega)) = c := by rw [← hc]; congr 1
  have HR := Lib.hid hR; clear hR
  have c255 : ((c.toNat : Nat) : Int) ≤ 255 := by have := c.toNat_lt; omega
  go_enter Tryz.func86, Tryz.ntmps86
  go_wp2_with fail
  go_loopw [8] (fun i wr => ∃ k : Nat, k ≤ 8 ∧ i = .int .i64 k ∧ Hid (∀ j, (hj : j < tabA.size) → j < k → c ≠ tabA[j]) ∧ Hid (Below w.heap.size w wr)) (fun i _ => 8 - (RowKit.intOf i).toNat)
  case atStart => exact ⟨0, by omega, rfl, Lib.hid (fun j _ h => absurd h (by omega)), Lib.hid (Below.refl _ _)⟩
  case round =>
    obtain ⟨k, hk, rfl, HM, HW⟩ := hrel
    by_cases hlt : k < 8
    · have hk8 : (k : Int) < 8 := by omega
      have hb8 : 0 ≤ (k : Int) ∧ (k : Int) < 8 := ⟨by omega, hk8⟩
      have hkT : k < tabA.size := hlt
      have hE : (((c.toNat : Int) == ((tabA[k]'hkT).toNat : Int)) = true) ↔ c = tabA[k]'hkT := ⟨fun h => UInt8.toNat_inj.1 (by have := beq_iff_eq.1 h; omega), fun h => by rw [h]; exact beq_self_eq_true _⟩
      have hix : tabA[k]'hkT = (⟨#[34, 92, 47, 98, 102, 110, 114, 116]⟩ : ByteArray)[k]'(hkT) := rfl
      by_cases he : c = tabA[k]'hkT
      · have t1 := hE.2 he
        rw [hix] at t1
        have HX : Hid (∃ r, R = (r, 2) ∧ tabB.extract k (k + 1) = Utf8.encode r) := by
          obtain ⟨r, hr, hx⟩ := tab_hit k hkT c he
          have := HR.out
          rw [hr] at this
          simp only [if_true] at this
          exact Lib.hid ⟨r, this.symm, hx⟩
        clear hE hix he HM
        go_wp2_with fail
        go_region
        go_wp2_with fail
        go_ret2
        obtain ⟨r, hr, hx⟩ := HX.out
        refine ⟨?_, below_drew1 HW.out⟩
        rw [hr]
        unfold RefW encS
        rw [if_neg (by show ¬((2 : Int) = 0); decide)]
        simp only [← hx]
        rfl
      · have t1 : ((c.toNat : Int) == ((tabA[k]'hkT).toNat : Int)) = false := by
          cases hq : ((c.toNat : Int) == ((tabA[k]'hkT).toNat : Int)) with
          | false => rfl
          | true => exact absurd (hE.1 hq) he
        have HN := Lib.hid he
        rw [hix] at t1
        clear hE he hix
        go_wp2_with fail
        go_region
        go_wp2_with fail
        go_roundw
        case rel =>
          refine ⟨k + 1, by omega, by congr 1 <;> omega, Lib.hid (fun j hj h => ?_), Lib.hid (below_drew1 HW.out)⟩
          by_cases hjk : j < k
          · exact HM.out j hj hjk
          · obtain rfl : j = k := by omega
            exact HN.out
        case measure => simp [RowKit.intOf]; omega
    · have hk8 : k = 8 := by omega
      subst hk8
      have HE : Hid ((if c.toNat = 117 then uniL (s.data.toList.drop a) else (0, 0)) = R) := by
        have hn := tab_none c (fun j hj => HM.out j hj hj)
        have := HR.out
        rw [hn, if_neg (by simp)] at this
        exact Lib.hid this
      clear HM HR
      by_cases hu : c.toNat = 117
      · have HE2 : Hid (uniL (s.data.toList.drop a) = R) := by have := HE.out; rw [if_pos hu] at this; exact Lib.hid this
        have t1 : ((c.toNat : Int) == 117) = true := beq_iff_eq.2 (by omega)
        clear HE hu
        have CH : ∀ d : Nat, d ≤ 8 → ∀ w, Calls Tryz.prog 105 #[.string s, .int .i64 ((a : Int) + d)] w fun e w' => e = .returned (.int .i64 (hexI (fourL ((s.data.toList.drop a).drop d)))) ∧ Below w.heap.size w w' := fun d hd w => by
          have := hex_any s (a + d) w (by omega) (by omega)
          rw [List.drop_drop]
          exact this
        have hR := HE2.out
        clear HE2
        have C1 := CH 2 (by omega)
        have C2 := CH 8 (by omega)
        clear CH
        have HP := pre_at s a
        unfold uniL at hR
        cases g1 : fourL ((s.data.toList.drop a).drop 2) with
        | none =>
          rw [g1] at hR C1
          have HX : Hid (R = (0, 0)) := Lib.hid hR.symm
          have D1 := Lib.hid C1
          clear hR C1 C2 HP g1
          unfold hexI at D1
          go_wp2_with fail
          refine (D1.out _).mono ?_
          rintro e w1 ⟨rfl, hb1⟩
          have HB1 := Lib.hid (below_of_new HW.out hb1); clear hb1
          go_wp2_with fail
          go_ret2
          exact ⟨by rw [HX.out]; rfl, HB1.out⟩
        | some h =>
          rw [g1] at hR C1
          simp only [] at hR
          obtain ⟨hlt1, hlen1⟩ := fourL_lt g1
          clear g1
          have D1 := Lib.hid C1
          clear C1
          unfold hexI at D1
          obtain ⟨H, hH⟩ : ∃ H : Int, (h : Int) = H := ⟨_, rfl⟩
          simp only [hH] at D1 hR
          have hHB : 0 ≤ H ∧ H < 65536 := by omega
          have hN0 : ¬ H < 0 := by omega
          by_cases q1 : 56320 ≤ h ∧ h < 57344
          · rw [if_pos q1] at hR
            have HX : Hid (R = (0, 0)) := Lib.hid hR.symm
            have ga : 56320 ≤ H := by omega
            have gb : H < 57344 := by omega
            clear hR C2 HP q1 hH hlt1
            go_wp2_with fail
            refine (D1.out _).mono ?_
            rintro e w1 ⟨rfl, hb1⟩
            have HB1 := Lib.hid (below_of_new HW.out hb1); clear hb1
            go_wp2_with fail
            go_ret2
            exact ⟨by rw [HX.out]; rfl, HB1.out⟩
          rw [if_neg q1] at hR
          by_cases q2 : h < 55296 ∨ 57344 ≤ h
          · rw [if_pos q2] at hR
            have HX : Hid (R = (H, 6)) := Lib.hid hR.symm
            have q2' : H < 55296 ∨ 57344 ≤ H := by omega
            have CU := Lib.hid (fun w => utf_any H w ⟨by omega, by omega⟩)
            clear hR C2 HP q1 q2 hH hlt1
            rcases q2' with q2 | q2
            all_goals
              go_wp2_with fail
              refine (D1.out _).mono ?_
              rintro e w1 ⟨rfl, hb1⟩
              have HB1 := Lib.hid (below_of_new HW.out hb1); clear hb1
              go_wp2_with fail
              refine (CU.out _).mono ?_
              rintro e w2 ⟨rfl, hb2⟩
              have HB2 := Lib.hid (below_of_new HB1.out hb2); clear hb2
              go_wp2_with fail
              go_ret2
              exact ⟨by rw [HX.out]; rfl, HB2.out⟩
          rw [if_neg q2] at hR
          have ga : 55296 ≤ H := by omega
          have gb : H < 56320 := by omega
          clear q1 q2 hH hlt1
          by_cases q7 : (s.size : Int) ≤ (a : Int) + 7
          · have hpf : Lib.hasPrefix ((s.data.toList.drop a).drop 6) [92, 117] = false := by
              cases hq : Lib.hasPrefix ((s.data.toList.drop a).drop 6) [92, 117] with
              | false => rfl
              | true => obtain ⟨h7, _⟩ := HP.1 hq; omega
            rw [if_pos hpf] at hR
            have HX : Hid (R = (0, 0)) := Lib.hid hR.symm
            clear hR C2 HP hpf
            go_wp2_with fail
            refine (D1.out _).mono ?_
            rintro e w1 ⟨rfl, hb1⟩
            have HB1 := Lib.hid (below_of_new HW.out hb1); clear hb1
            go_wp2_with fail
            go_ret2
            exact ⟨by rw [HX.out]; rfl, HB1.out⟩
          have h7n : a + 7 < s.size := by omega
          have h7b : 0 ≤ (a : Int) + 7 ∧ (a : Int) + 7 < (s.size : Int) := by omega
          have h6b : 0 ≤ (a : Int) + 6 ∧ (a : Int) + 6 < (s.size : Int) := by omega
          by_cases q6 : (s[a + 6]'(by omega)).toNat = 92
          · have t6 : ((s[a + 6]'(by omega)).toNat : Int) = 92 := by omega
            by_cases q5 : (s[a + 7]'h7n).toNat = 117
            · have t7 : ((s[a + 7]'h7n).toNat : Int) = 117 := by omega
              rw [if_neg (by rw [HP.2 ⟨h7n, q6, q5⟩]; simp)] at hR
              have h8s : a + 8 ≤ s.size := by omega
              clear HP q6 q5
              have D2 := Lib.hid C2
              cases g2 : fourL ((s.data.toList.drop a).drop 8) with
              | none =>
                rw [g2] at hR D2
                have HX : Hid (R = (0, 0)) := Lib.hid hR.symm
                unfold hexI at D2
                clear hR C2 g2
                go_wp2_with fail
                refine (D1.out _).mono ?_
                rintro e w1 ⟨rfl, hb1⟩
                have HB1 := Lib.hid (below_of_new HW.out hb1); clear hb1
                go_wp2_with fail
                refine (D2.out _).mono ?_
                rintro e w2 ⟨rfl, hb2⟩
                have HB2 := Lib.hid (below_of_new HB1.out hb2); clear hb2
                go_wp2_with fail
                go_ret2
                exact ⟨by rw [HX.out]; rfl, HB2.out⟩
              | some lo =>
                rw [g2] at hR D2
                simp only [] at hR
                obtain ⟨hlt2, _⟩ := fourL_lt g2
                unfold hexI at D2
                obtain ⟨L, hL⟩ : ∃ L : Int, (lo : Int) = L := ⟨_, rfl⟩
                simp only [hL] at D2 hR
                have hLB : 0 ≤ L ∧ L < 65536 := by omega
                clear C2 g2
                by_cases q8 : lo < 56320 ∨ 57344 ≤ lo
                · rw [if_pos q8] at hR
                  have HX : Hid (R = (0, 0)) := Lib.hid hR.symm
                  have q8' : L < 56320 ∨ 57344 ≤ L := by omega
                  clear hR q8 hL hlt2
                  rcases q8' with q8 | q8
                  all_goals
                    go_wp2_with fail
                    refine (D1.out _).mono ?_
                    rintro e w1 ⟨rfl, hb1⟩
                    have HB1 := Lib.hid (below_of_new HW.out hb1); clear hb1
                    go_wp2_with fail
                    refine (D2.out _).mono ?_
                    rintro e w2 ⟨rfl, hb2⟩
                    have HB2 := Lib.hid (below_of_new HB1.out hb2); clear hb2
                    go_wp2_with fail
                    go_ret2
                    exact ⟨by rw [HX.out]; rfl, HB2.out⟩
                · rw [if_neg q8] at hR
                  have gc : 56320 ≤ L := by omega
                  have gd : L < 57344 := by omega
                  clear q8 hL hlt2
                  have HX : Hid (R = (65536 + 1024 * (H - 55296) + L - 56320, 12)) := Lib.hid (by rw [← hR]; congr 1; omega)
                  have CU := Lib.hid (fun w => utf_any (65536 + 1024 * (H - 55296) + L - 56320) w ⟨by omega, by omega⟩)
                  clear hR
                  go_wp2_with fail
                  refine (D1.out _).mono ?_
                  rintro e w1 ⟨rfl, hb1⟩
                  have HB1 := Lib.hid (below_of_new HW.out hb1); clear hb1
                  go_wp2_with fail
                  refine (D2.out _).mono ?_
                  rintro e w2 ⟨rfl, hb2⟩
                  have HB2 := Lib.hid (below_of_new HB1.out hb2); clear hb2
                  go_wp2_with fail
                  refine (CU.out _).mono ?_
                  rintro e w3 ⟨rfl, hb3⟩
                  have HB3 := Lib.hid (below_of_new HB2.out hb3); clear hb3
                  go_wp2_with fail
                  go_ret2
                  exact ⟨by rw [HX.out]; rfl, HB3.out⟩
            · have t7 : ¬ ((s[a + 7]'h7n).toNat : Int) = 117 := by omega
              have hpf : Lib.hasPrefix ((s.data.toList.drop a).drop 6) [92, 117] = false := by
                cases hq : Lib.hasPrefix ((s.data.toList.drop a).drop 6) [92, 117] with
                | false => rfl
                | true => obtain ⟨_, _, h8⟩ := HP.1 hq; exact absurd h8 q5
              rw [if_pos hpf] at hR
              have HX : Hid (R = (0, 0)) := Lib.hid hR.symm
              clear hR C2 HP hpf q6 q5
              go_wp2_with fail
              refine (D1.out _).mono ?_
              rintro e w1 ⟨rfl, hb1⟩
              have HB1 := Lib.hid (below_of_new HW.out hb1); clear hb1
              go_wp2_with fail
              go_ret2
              exact ⟨by rw [HX.out]; rfl, HB1.out⟩
          · have t6 : ¬ ((s[a + 6]'(by omega)).toNat : Int) = 92 := by omega
            have hpf : Lib.hasPrefix ((s.data.toList.drop a).drop 6) [92, 117] = false := by
              cases hq : Lib.hasPrefix ((s.data.toList.drop a).drop 6) [92, 117] with
              | false => rfl
              | true => obtain ⟨_, h8, _⟩ := HP.1 hq; exact absurd h8 q6
            rw [if_pos hpf] at hR
            have HX : Hid (R = (0, 0)) := Lib.hid hR.symm
            clear hR C2 HP hpf q6
            go_wp2_with fail
            refine (D1.out _).mono ?_
            rintro e w1 ⟨rfl, hb1⟩
            have HB1 := Lib.hid (below_of_new HW.out hb1); clear hb1
            go_wp2_with fail
            go_ret2
            exact ⟨by rw [HX.out]; rfl, HB1.out⟩
      · have HX : Hid (R = (0, 0)) := by have := HE.out; rw [if_neg hu] at this; exact Lib.hid this.symm
        have t1 : ((c.toNat : Int) == 117) = false := beq_eq_false_iff_ne.2 (by omega)
        clear HE hu
        go_wp2_with fail
        go_ret2
        exact ⟨by rw [HX.out]; rfl, HW.out⟩
end Go.Proofs.YtfklmopnifkieaaGreatDoor
