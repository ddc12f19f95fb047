import Derived.Test.YtbldfpkfinpciaaGreatDoorRa3
import Derived.Test.YtbldfpkfinpciaaGreatDoorRa11
import Derived.Lib.MapLaws
import Derived.Lib.TrimAscii
import Derived.Test.YtbldfpkfinpciaaGreatDoorRa4
import Derived.Deep.RegionLaw
import Derived.Test.YtbldfpkfinpciaaGreatDoorRa2
namespace Go.Proofs.YtbldfpkfinpciaaGreatDoor
set_option linter.unusedSimpArgs false
set_option linter.unusedVariables false
open Go.RowKit
open Go.Lib hiding intOf
def hexI (r : Option Nat) : Int := match r with | some n => n | none => -1
theorem hexN_cases (c : UInt8) :
  (48 ≤ (c.toNat : Int) ∧ (c.toNat : Int) ≤ 57 ∧ hexN c = some (c.toNat - 48)) ∨
  (97 ≤ (c.toNat : Int) ∧ (c.toNat : Int) ≤ 102 ∧ hexN c = some (c.toNat - 97 + 10)) ∨
  (65 ≤ (c.toNat : Int) ∧ (c.toNat : Int) ≤ 70 ∧ hexN c = some (c.toNat - 65 + 10)) ∨
  (((c.toNat : Int) < 48 ∨ 57 < (c.toNat : Int) ∧ (c.toNat : Int) < 65 ∨ 70 < (c.toNat : Int) ∧ (c.toNat : Int) < 97 ∨ 102 < (c.toNat : Int)) ∧ hexN c = none) := by
 unfold hexN
 by_cases a : 48 ≤ c.toNat ∧ c.toNat ≤ 57
 ·left; refine ⟨by omega, by omega, ?_⟩; rw [if_pos (by omega)]
 by_cases b : 97 ≤ c.toNat ∧ c.toNat ≤ 102
 ·right; left; refine ⟨by omega, by omega, ?_⟩; rw [if_neg (by omega), if_pos (by omega)]; congr 1; omega
 by_cases d : 65 ≤ c.toNat ∧ c.toNat ≤ 70
 ·right; right; left; refine ⟨by omega, by omega, ?_⟩; rw [if_neg (by omega), if_neg (by omega), if_pos (by omega)]; congr 1; omega
 ·right; right; right; refine ⟨by omega, ?_⟩; rw [if_neg (by omega), if_neg (by omega), if_neg (by omega)]
theorem take_step (s : ByteArray) (a k : Nat) (hk : k < 4) (h : a + k < s.size) :
  (s.data.toList.drop (a + k)).take (4 - k) = s[a + k] :: (s.data.toList.drop (a + (k + 1))).take (4 - (k + 1)) := by
 have hl : s.data.toList.length = s.size := rfl
 rw [List.drop_eq_getElem_cons (by rw [hl]; exact h), show 4 - k = (4 - (k + 1)) + 1 by omega, List.take_succ_cons]
 rfl
set_option maxHeartbeats 2000000 in
theorem hex_any (s : ByteArray) (a : Nat) (w : World) (ha : a ≤ 4294967296) (hs : s.size ≤ 4294967296) :
  Calls Tryz.prog 214 #[.string s, .int .i64 a] w fun e w' => e = .returned (.int .i64 (hexI (fourL (s.data.toList.drop a)))) ∧ Below w.heap.size w w' := by
 obtain ⟨R, hR⟩ : ∃ R, fourL (s.data.toList.drop a) = R := ⟨_, rfl⟩
 rw [hR]
 have hl : s.data.toList.length = s.size := rfl
 by_cases h4 : (s.size : Int) - 4 < (a : Int)
 ·have : R = none := by rw [← hR]; unfold fourL; rw [if_pos (by rw [List.length_drop]; omega)]
  subst this
  clear hR
  go_enter Tryz.func214, Tryz.ntmps214
  go_wp2_with fail
  go_ret
  exact ⟨rfl, Below.refl _ _⟩
 have hle : a + 4 ≤ s.size := by omega
 have h0 : Hid (hexGo 0 ((s.data.toList.drop (a + 0)).take (4 - 0)) = R) := by
  rw [← hR]; unfold fourL; rw [if_neg (by rw [List.length_drop]; omega)]; exact Lib.hid rfl
 clear hR hl
 go_enter Tryz.func214, Tryz.ntmps214
 go_wp2_with fail
 go_loopw [5, 6] (fun n i wr => ∃ k acc : Nat, k ≤ 4 ∧ acc < 65536 ∧ Hid (acc < 16 ^ k) ∧ n = .int .i64 acc ∧ i = .int .i64 ((a + k : Nat) : Int) ∧ Hid (hexGo acc ((s.data.toList.drop (a + k)).take (4 - k)) = R) ∧ wr = w) (fun n i _ => a + 4 - (RowKit.intOf i).toNat)
 case atStart => exact ⟨0, 0, by omega, by omega, Lib.hid (by simp), rfl, rfl, h0, rfl⟩
 case round =>
  obtain ⟨k, acc, hk, hac, HA, rfl, rfl, HD, rfl⟩ := hrel
  by_cases hlt : k < 4
  ·have hlt' : ((a + k : Nat) : Int) < (a : Int) + 4 := by omega
   have hin : a + k < s.size := by omega
   have hst := take_step s a k hlt hin
   have hc := hexN_cases (s[a + k]'hin)
   have hacc : acc < 4096 := by
    have := HA.out
    have h3 : 16 ^ k ≤ 16 ^ 3 := Nat.pow_le_pow_right (by omega) (by omega)
    omega
   have key : ∀ d : Nat, hexN (s[a + k]'hin) = some d → Hid (hexGo (16 * acc + d) ((s.data.toList.drop (a + (k + 1))).take (4 - (k + 1))) = R) ∧ Hid (16 * acc + d < 16 ^ (k + 1)) ∧ 16 * acc + d < 65536 := by
    intro d hd
    have h1 := HD.out
    rw [hst] at h1
    unfold hexGo at h1
    rw [hd] at h1
    have h2 := hexN_lt hd
    have h3 := HA.out
    exact ⟨Lib.hid h1, Lib.hid (by rw [Nat.pow_succ]; omega), by omega⟩
   rcases hc with ⟨c1, c2, hd⟩ | ⟨c1, c2, hd⟩ | ⟨c1, c2, hd⟩ | ⟨c1, hd⟩
   ·have hK := Lib.hid (key _ hd)
    clear key hd hst HD
    go_wp2_with fail
    go_roundw
    case rel => exact ⟨k + 1, 16 * acc + ((s[a + k]'hin).toNat - 48), by omega, hK.out.2.2, hK.out.2.1, by congr 1 <;> omega, by congr 1 <;> omega, hK.out.1, by first | rfl | trivial⟩
    case measure => simp [RowKit.intOf]; omega
   ·have hK := Lib.hid (key _ hd)
    clear key hd hst HD
    go_wp2_with fail
    go_roundw
    case rel => exact ⟨k + 1, 16 * acc + ((s[a + k]'hin).toNat - 97 + 10), by omega, hK.out.2.2, hK.out.2.1, by congr 1 <;> omega, by congr 1 <;> omega, hK.out.1, by first | rfl | trivial⟩
    case measure => simp [RowKit.intOf]; omega
   ·have hK := Lib.hid (key _ hd)
    clear key hd hst HD
    go_wp2_with fail
    go_roundw
    case rel => exact ⟨k + 1, 16 * acc + ((s[a + k]'hin).toNat - 65 + 10), by omega, hK.out.2.2, hK.out.2.1, by congr 1 <;> omega, by congr 1 <;> omega, hK.out.1, by first | rfl | trivial⟩
    case measure => simp [RowKit.intOf]; omega
   ·have hN : Hid (R = none) := by
     have h1 := HD.out
     rw [hst] at h1
     unfold hexGo at h1
     rw [hd] at h1
     exact Lib.hid h1.symm
    clear key hd hst HD
    have c255 : ((s[a + k]'hin).toNat : Int) ≤ 255 := by have := (s[a + k]'hin).toNat_lt; omega
    rcases c1 with c1 | ⟨c1, c2⟩ | ⟨c1, c2⟩ | c1
    all_goals
     go_wp2_with fail
     go_ret
     exact ⟨by rw [hN.out]; rfl, Below.refl _ _⟩
  ·have hk4 : k = 4 := by omega
   subst hk4
   have hF : Hid (R = some acc) := by
    have := HD.out
    rw [show 4 - 4 = 0 from rfl, List.take_zero] at this
    exact Lib.hid this.symm
   clear HD
   go_wp2_with fail
   go_ret
   exact ⟨by rw [hF.out]; rfl, Below.refl _ _⟩
theorem utf_any (n : Int) (w : World) (h0 : 0 ≤ n ∧ n ≤ 1114111) :
  Calls Tryz.prog 215 #[.int .i64 n] w fun e w' => e = .returned (.string (Utf8.encode n)) ∧ Below w.heap.size w w' := by
 go_enter Tryz.func215, Tryz.ntmps215
 go_wp2_with fail
 go_ret
 exact ⟨rfl, Below.refl _ _⟩
end Go.Proofs.YtbldfpkfinpciaaGreatDoor
namespace Go.Proofs.YtbldfpkfinpciaaGreatDoor
set_option linter.unusedSimpArgs false
set_option linter.unusedVariables false
open Go.RowKit
open Go.Lib hiding intOf
def encS (r : Int × Int) : ByteArray := if r.2 = 0 then ⟨#[]⟩ else Utf8.encode r.1
def tabA : ByteArray := ⟨#[34, 92, 47, 98, 102, 110, 114, 116]⟩
def tabB : ByteArray := ⟨#[34, 92, 47, 8, 12, 10, 13, 9]⟩
theorem tab_all : ∀ k : Fin 8, (meantI ((tabA[k.val]'(by have := k.isLt; exact this)).toNat : Int)).2 = true ∧ (tabB.extract k.val (k.val + 1)).data = (Utf8.encode (meantI ((tabA[k.val]'(by have := k.isLt; exact this)).toNat : Int)).1).data := by decide
theorem tab_hit (k : Nat) (hk : k < tabA.size) (c : UInt8) (h : c = tabA[k]) : ∃ r : Int, meantI (c.toNat : Int) = (r, true) ∧ tabB.extract k (k + 1) = Utf8.encode r := by
 subst h
 have h8 : k < 8 := hk
 have := tab_all ⟨k, h8⟩
 exact ⟨_, Prod.ext rfl this.1, ByteArray.ext this.2⟩
set_option maxRecDepth 100000 in
theorem tab_miss : ∀ n : Fin 256, (∀ j : Fin 8, (tabA[j.val]'(by have := j.isLt; exact this)).toNat ≠ n.val) → (meantI (n.val : Int)).2 = false := by decide
theorem tab_none (c : UInt8) (h : ∀ j, (hj : j < tabA.size) → c ≠ tabA[j]) : (meantI (c.toNat : Int)).2 = false := by
 refine tab_miss ⟨c.toNat, c.toNat_lt⟩ fun j e => h j.val j.isLt ?_
 exact (UInt8.toNat_inj.1 e).symm
theorem below_drew1 {B : Nat} {a w : World} (h : RowKit.Below B a w) : RowKit.Below B a w.drew := ⟨h.os, h.tape, h.output, h.size, h.block⟩
def RefW (r : Int × Int) : Ending := .returned (.tuple #[.string (encS r), .int .i64 r.2])
theorem escL_at (s : ByteArray) (a : Nat) (h : a + 1 < s.size) : escL (s.data.toList.drop a) = if (meantI (s[a + 1].toNat : Int)).2 then ((meantI (s[a + 1].toNat : Int)).1, 2) else if s[a + 1].toNat = 117 then uniL (s.data.toList.drop a) else (0, 0) := by
 have hl : s.data.toList.length = s.size := rfl
 unfold escL
 rw [List.getElem?_drop, List.getElem?_eq_getElem (by rw [hl]; exact h)]
 rfl
theorem pre_at (s : ByteArray) (a : Nat) : Lib.hasPrefix ((s.data.toList.drop a).drop 6) [92, 117] = true ↔ ∃ h : a + 7 < s.size, (s[a + 6]'(by omega)).toNat = 92 ∧ s[a + 7].toNat = 117 := by
 have hl : s.data.toList.length = s.size := rfl
 unfold Lib.hasPrefix
 rw [List.isPrefixOf_iff_prefix, List.drop_drop]
 constructor
 ·rintro ⟨t, ht⟩
  have hlen := congrArg List.length ht
  rw [List.length_drop, hl] at hlen
  simp at hlen
  have h : a + 7 < s.size := by omega
  refine ⟨h, ?_, ?_⟩
  ·have := congrArg (fun l => l[0]?) ht
   simp only [List.getElem?_drop] at this
   rw [List.getElem?_eq_getElem (show a + 6 + 0 < s.data.toList.length by rw [hl]; omega)] at this
   have e : s[a + 6]'(by omega) = s.data.toList[a + 6 + 0]'(by rw [hl]; omega) := rfl
   rw [e, ← Option.some.inj this]; rfl
  ·have := congrArg (fun l => l[1]?) ht
   simp only [List.getElem?_drop] at this
   rw [List.getElem?_eq_getElem (show a + 6 + 1 < s.data.toList.length by rw [hl]; omega)] at this
   have e : s[a + 7]'(by omega) = s.data.toList[a + 6 + 1]'(by rw [hl]; omega) := rfl
   rw [e, ← Option.some.inj this]; rfl
 ·rintro ⟨h, h6, h7⟩
  refine ⟨s.data.toList.drop (a + 8), ?_⟩
  rw [List.drop_eq_getElem_cons (show a + 6 < s.data.toList.length by rw [hl]; omega), List.drop_eq_getElem_cons (show a + 6 + 1 < s.data.toList.length by rw [hl]; omega)]
  have e6 : s.data.toList[a + 6]'(by rw [hl]; omega) = 92 := UInt8.toNat_inj.1 h6
  have e7 : s.data.toList[a + 6 + 1]'(by rw [hl]; omega) = 117 := UInt8.toNat_inj.1 h7
  rw [e6, e7]; rfl
set_option maxRecDepth 100000 in
set_option maxHeartbeats 4000000 in
theorem refEscape_any (s : ByteArray) (a : Nat) (w : World) (ha : a < s.size) (hs : s.size ≤ 1073741824) :
  Calls Tryz.prog 168 #[.string s, .int .i64 a] w fun e w' => e = RefW (escL (s.data.toList.drop a)) ∧ Below w.heap.size w w' := by
 obtain ⟨R, hR⟩ : ∃ R, escL (s.data.toList.drop a) = R := ⟨_, rfl⟩
 rw [hR]
 have hl : s.data.toList.length = s.size := rfl
 by_cases h1 : (s.size : Int) ≤ (a : Int) + 1
 ·have : R = (0, 0) := by rw [← hR]; unfold escL; rw [List.getElem?_eq_none (by rw [List.length_drop]; omega)]
  subst this
  clear hR
  go_enter Tryz.func168, Tryz.ntmps168
  go_wp2_with fail
  go_ret2
  exact ⟨rfl, Below.refl _ _⟩
 have hin : a + 1 < s.size := by omega
 have hb : 0 ≤ (a : Int) + 1 ∧ (a : Int) + 1 < (s.size : Int) := by omega
 rw [escL_at s a hin] at hR
 obtain ⟨c, hc⟩ : ∃ c, s[a + 1]'hin = c := ⟨_, rfl⟩
 rw [hc] at hR
 have hci : (s[((a : Int) + 1).toNat]'(by omega)) = c := by rw [← hc]; congr 1
 have HR := Lib.hid hR; clear hR
 have c255 : ((c.toNat : Nat) : Int) ≤ 255 := by have := c.toNat_lt; omega
 go_enter Tryz.func168, Tryz.ntmps168
 go_wp2_with fail
 go_loopw [8] (fun i wr => ∃ k : Nat, k ≤ 8 ∧ i = .int .i64 k ∧ Hid (∀ j, (hj : j < tabA.size) → j < k → c ≠ tabA[j]) ∧ Hid (Below w.heap.size w wr)) (fun i _ => 8 - (RowKit.intOf i).toNat)
 case atStart => exact ⟨0, by omega, rfl, Lib.hid (fun j _ h => absurd h (by omega)), Lib.hid (Below.refl _ _)⟩
 case round =>
  obtain ⟨k, hk, rfl, HM, HW⟩ := hrel
  by_cases hlt : k < 8
  ·have hk8 : (k : Int) < 8 := by omega
   have hb8 : 0 ≤ (k : Int) ∧ (k : Int) < 8 := ⟨by omega, hk8⟩
   have hkT : k < tabA.size := hlt
   have hE : (((c.toNat : Int) == ((tabA[k]'hkT).toNat : Int)) = true) ↔ c = tabA[k]'hkT := ⟨fun h => UInt8.toNat_inj.1 (by have := beq_iff_eq.1 h; omega), fun h => by rw [h]; exact beq_self_eq_true _⟩
   have hix : tabA[k]'hkT = (⟨#[34, 92, 47, 98, 102, 110, 114, 116]⟩ : ByteArray)[k]'(hkT) := rfl
   by_cases he : c = tabA[k]'hkT
   ·have t1 := hE.2 he
    rw [hix] at t1
    have HX : Hid (∃ r, R = (r, 2) ∧ tabB.extract k (k + 1) = Utf8.encode r) := by
     obtain ⟨r, hr, hx⟩ := tab_hit k hkT c he
     have := HR.out
     rw [hr] at this
     simp only [if_true] at this
     exact Lib.hid ⟨r, this.symm, hx⟩
    clear hE hix he HM
    go_wp2_with fail
    go_region
    go_wp2_with fail
    go_ret2
    obtain ⟨r, hr, hx⟩ := HX.out
    refine ⟨?_, below_drew1 HW.out⟩
    rw [hr]
    unfold RefW encS
    rw [if_neg (by show ¬((2 : Int) = 0); decide)]
    simp only [← hx]
    rfl
   ·have t1 : ((c.toNat : Int) == ((tabA[k]'hkT).toNat : Int)) = false := by
     cases hq : ((c.toNat : Int) == ((tabA[k]'hkT).toNat : Int)) with
     | false => rfl
     | true => exact absurd (hE.1 hq) he
    have HN := Lib.hid he
    rw [hix] at t1
    clear hE he hix
    go_wp2_with fail
    go_region
    go_wp2_with fail
    go_roundw
    case rel =>
     refine ⟨k + 1, by omega, by congr 1 <;> omega, Lib.hid (fun j hj h => ?_), Lib.hid (below_drew1 HW.out)⟩
     by_cases hjk : j < k
     ·exact HM.out j hj hjk
     ·obtain rfl : j = k := by omega
      exact HN.out
    case measure => simp [RowKit.intOf]; omega
  ·have hk8 : k = 8 := by omega
   subst hk8
   have HE : Hid ((if c.toNat = 117 then uniL (s.data.toList.drop a) else (0, 0)) = R) := by
    have hn := tab_none c (fun j hj => HM.out j hj hj)
    have := HR.out
    rw [hn, if_neg (by simp)] at this
    exact Lib.hid this
   clear HM HR
   by_cases hu : c.toNat = 117
   ·have HE2 : Hid (uniL (s.data.toList.drop a) = R) := by have := HE.out; rw [if_pos hu] at this; exact Lib.hid this
    have t1 : ((c.toNat : Int) == 117) = true := beq_iff_eq.2 (by omega)
    clear HE hu
    have CH : ∀ d : Nat, d ≤ 8 → ∀ w, Calls Tryz.prog 214 #[.string s, .int .i64 ((a : Int) + d)] w fun e w' => e = .returned (.int .i64 (hexI (fourL ((s.data.toList.drop a).drop d)))) ∧ Below w.heap.size w w' := fun d hd w => by
     have := hex_any s (a + d) w (by omega) (by omega)
     rw [List.drop_drop]
     exact this
    have hR := HE2.out
    clear HE2
    have C1 := CH 2 (by omega)
    have C2 := CH 8 (by omega)
    clear CH
    have HP := pre_at s a
    unfold uniL at hR
    cases g1 : fourL ((s.data.toList.drop a).drop 2) with
    | none =>
     rw [g1] at hR C1
     have HX : Hid (R = (0, 0)) := Lib.hid hR.symm
     have D1 := Lib.hid C1
     clear hR C1 C2 HP g1
     unfold hexI at D1
     go_wp2_with fail
     refine (D1.out _).mono ?_
     rintro e w1 ⟨rfl, hb1⟩
     have HB1 := Lib.hid (below_of_new HW.out hb1); clear hb1
     go_wp2_with fail
     go_ret2
     exact ⟨by rw [HX.out]; rfl, HB1.out⟩
    | some h =>
     rw [g1] at hR C1
     simp only [] at hR
     obtain ⟨hlt1, hlen1⟩ := fourL_lt g1
     clear g1
     have D1 := Lib.hid C1
     clear C1
     unfold hexI at D1
     obtain ⟨H, hH⟩ : ∃ H : Int, (h : Int) = H := ⟨_, rfl⟩
     simp only [hH] at D1 hR
     have hHB : 0 ≤ H ∧ H < 65536 := by omega
     have hN0 : ¬ H < 0 := by omega
     by_cases q1 : 56320 ≤ h ∧ h < 57344
     ·rw [if_pos q1] at hR
      have HX : Hid (R = (0, 0)) := Lib.hid hR.symm
      have ga : 56320 ≤ H := by omega
      have gb : H < 57344 := by omega
      clear hR C2 HP q1 hH hlt1
      go_wp2_with fail
      refine (D1.out _).mono ?_
      rintro e w1 ⟨rfl, hb1⟩
      have HB1 := Lib.hid (below_of_new HW.out hb1); clear hb1
      go_wp2_with fail
      go_ret2
      exact ⟨by rw [HX.out]; rfl, HB1.out⟩
     rw [if_neg q1] at hR
     by_cases q2 : h < 55296 ∨ 57344 ≤ h
     ·rw [if_pos q2] at hR
      have HX : Hid (R = (H, 6)) := Lib.hid hR.symm
      have q2' : H < 55296 ∨ 57344 ≤ H := by omega
      have CU := Lib.hid (fun w => utf_any H w ⟨by omega, by omega⟩)
      clear hR C2 HP q1 q2 hH hlt1
      rcases q2' with q2 | q2
      all_goals
       go_wp2_with fail
       refine (D1.out _).mono ?_
       rintro e w1 ⟨rfl, hb1⟩
       have HB1 := Lib.hid (below_of_new HW.out hb1); clear hb1
       go_wp2_with fail
       refine (CU.out _).mono ?_
       rintro e w2 ⟨rfl, hb2⟩
       have HB2 := Lib.hid (below_of_new HB1.out hb2); clear hb2
       go_wp2_with fail
       go_ret2
       exact ⟨by rw [HX.out]; rfl, HB2.out⟩
     rw [if_neg q2] at hR
     have ga : 55296 ≤ H := by omega
     have gb : H < 56320 := by omega
     clear q1 q2 hH hlt1
     by_cases q7 : (s.size : Int) ≤ (a : Int) + 7
     ·have hpf : Lib.hasPrefix ((s.data.toList.drop a).drop 6) [92, 117] = false := by
       cases hq : Lib.hasPrefix ((s.data.toList.drop a).drop 6) [92, 117] with
       | false => rfl
       | true => obtain ⟨h7, _⟩ := HP.1 hq; omega
      rw [if_pos hpf] at hR
      have HX : Hid (R = (0, 0)) := Lib.hid hR.symm
      clear hR C2 HP hpf
      go_wp2_with fail
      refine (D1.out _).mono ?_
      rintro e w1 ⟨rfl, hb1⟩
      have HB1 := Lib.hid (below_of_new HW.out hb1); clear hb1
      go_wp2_with fail
      go_ret2
      exact ⟨by rw [HX.out]; rfl, HB1.out⟩
     have h7n : a + 7 < s.size := by omega
     have h7b : 0 ≤ (a : Int) + 7 ∧ (a : Int) + 7 < (s.size : Int) := by omega
     have h6b : 0 ≤ (a : Int) + 6 ∧ (a : Int) + 6 < (s.size : Int) := by omega
     by_cases q6 : (s[a + 6]'(by omega)).toNat = 92
     ·have t6 : ((s[a + 6]'(by omega)).toNat : Int) = 92 := by omega
      by_cases q5 : (s[a + 7]'h7n).toNat = 117
      ·have t7 : ((s[a + 7]'h7n).toNat : Int) = 117 := by omega
       rw [if_neg (by rw [HP.2 ⟨h7n, q6, q5⟩]; simp)] at hR
       have h8s : a + 8 ≤ s.size := by omega
       clear HP q6 q5
       have D2 := Lib.hid C2
       cases g2 : fourL ((s.data.toList.drop a).drop 8) with
       | none =>
        rw [g2] at hR D2
        have HX : Hid (R = (0, 0)) := Lib.hid hR.symm
        unfold hexI at D2
        clear hR C2 g2
        go_wp2_with fail
        refine (D1.out _).mono ?_
        rintro e w1 ⟨rfl, hb1⟩
        have HB1 := Lib.hid (below_of_new HW.out hb1); clear hb1
        go_wp2_with fail
        refine (D2.out _).mono ?_
        rintro e w2 ⟨rfl, hb2⟩
        have HB2 := Lib.hid (below_of_new HB1.out hb2); clear hb2
        go_wp2_with fail
        go_ret2
        exact ⟨by rw [HX.out]; rfl, HB2.out⟩
       | some lo =>
        rw [g2] at hR D2
        simp only [] at hR
        obtain ⟨hlt2, _⟩ := fourL_lt g2
        unfold hexI at D2
        obtain ⟨L, hL⟩ : ∃ L : Int, (lo : Int) = L := ⟨_, rfl⟩
        simp only [hL] at D2 hR
        have hLB : 0 ≤ L ∧ L < 65536 := by omega
        clear C2 g2
        by_cases q8 : lo < 56320 ∨ 57344 ≤ lo
        ·rw [if_pos q8] at hR
         have HX : Hid (R = (0, 0)) := Lib.hid hR.symm
         have q8' : L < 56320 ∨ 57344 ≤ L := by omega
         clear hR q8 hL hlt2
         rcases q8' with q8 | q8
         all_goals
          go_wp2_with fail
          refine (D1.out _).mono ?_
          rintro e w1 ⟨rfl, hb1⟩
          have HB1 := Lib.hid (below_of_new HW.out hb1); clear hb1
          go_wp2_with fail
          refine (D2.out _).mono ?_
          rintro e w2 ⟨rfl, hb2⟩
          have HB2 := Lib.hid (below_of_new HB1.out hb2); clear hb2
          go_wp2_with fail
          go_ret2
          exact ⟨by rw [HX.out]; rfl, HB2.out⟩
        ·rw [if_neg q8] at hR
         have gc : 56320 ≤ L := by omega
         have gd : L < 57344 := by omega
         clear q8 hL hlt2
         have HX : Hid (R = (65536 + 1024 * (H - 55296) + L - 56320, 12)) := Lib.hid (by rw [← hR]; congr 1; omega)
         have CU := Lib.hid (fun w => utf_any (65536 + 1024 * (H - 55296) + L - 56320) w ⟨by omega, by omega⟩)
         clear hR
         go_wp2_with fail
         refine (D1.out _).mono ?_
         rintro e w1 ⟨rfl, hb1⟩
         have HB1 := Lib.hid (below_of_new HW.out hb1); clear hb1
         go_wp2_with fail
         refine (D2.out _).mono ?_
         rintro e w2 ⟨rfl, hb2⟩
         have HB2 := Lib.hid (below_of_new HB1.out hb2); clear hb2
         go_wp2_with fail
         refine (CU.out _).mono ?_
         rintro e w3 ⟨rfl, hb3⟩
         have HB3 := Lib.hid (below_of_new HB2.out hb3); clear hb3
         go_wp2_with fail
         go_ret2
         exact ⟨by rw [HX.out]; rfl, HB3.out⟩
      ·have t7 : ¬ ((s[a + 7]'h7n).toNat : Int) = 117 := by omega
       have hpf : Lib.hasPrefix ((s.data.toList.drop a).drop 6) [92, 117] = false := by
        cases hq : Lib.hasPrefix ((s.data.toList.drop a).drop 6) [92, 117] with
        | false => rfl
        | true => obtain ⟨_, _, h8⟩ := HP.1 hq; exact absurd h8 q5
       rw [if_pos hpf] at hR
       have HX : Hid (R = (0, 0)) := Lib.hid hR.symm
       clear hR C2 HP hpf q6 q5
       go_wp2_with fail
       refine (D1.out _).mono ?_
       rintro e w1 ⟨rfl, hb1⟩
       have HB1 := Lib.hid (below_of_new HW.out hb1); clear hb1
       go_wp2_with fail
       go_ret2
       exact ⟨by rw [HX.out]; rfl, HB1.out⟩
     ·have t6 : ¬ ((s[a + 6]'(by omega)).toNat : Int) = 92 := by omega
      have hpf : Lib.hasPrefix ((s.data.toList.drop a).drop 6) [92, 117] = false := by
       cases hq : Lib.hasPrefix ((s.data.toList.drop a).drop 6) [92, 117] with
       | false => rfl
       | true => obtain ⟨_, h8, _⟩ := HP.1 hq; exact absurd h8 q6
      rw [if_pos hpf] at hR
      have HX : Hid (R = (0, 0)) := Lib.hid hR.symm
      clear hR C2 HP hpf q6
      go_wp2_with fail
      refine (D1.out _).mono ?_
      rintro e w1 ⟨rfl, hb1⟩
      have HB1 := Lib.hid (below_of_new HW.out hb1); clear hb1
      go_wp2_with fail
      go_ret2
      exact ⟨by rw [HX.out]; rfl, HB1.out⟩
   ·have HX : Hid (R = (0, 0)) := by have := HE.out; rw [if_neg hu] at this; exact Lib.hid this.symm
    have t1 : ((c.toNat : Int) == 117) = false := beq_eq_false_iff_ne.2 (by omega)
    clear HE hu
    go_wp2_with fail
    go_ret2
    exact ⟨by rw [HX.out]; rfl, HW.out⟩
end Go.Proofs.YtbldfpkfinpciaaGreatDoor
namespace Go.Proofs.YtbldfpkfinpciaaGreatDoor
set_option linter.unusedSimpArgs false
set_option linter.unusedVariables false
open Go.RowKit
open Go.Lib hiding intOf
theorem partL_plain (l : List UInt8) (c : UInt8) (hc : ¬ c = 92) (G : Bool) (hG : G = !((decodeL (c :: l)).1 == 65533 && (decodeL (c :: l)).2 == 1)) :
  (c.toNat < 32 ∨ G = false → partL (c :: l) = (0, 0)) ∧ (¬ c.toNat < 32 → G = true → partL (c :: l) = (((decodeL (c :: l)).1 : Int), ((decodeL (c :: l)).2 : Int)) ∧ encodeRune ((decodeL (c :: l)).1 : Int) = (c :: l).take (decodeL (c :: l)).2) := by
 have h32 := rune_lt32 l c
 have hp : partL (c :: l) = if plainB (decodeL (c :: l)) then (0, 0) else (((decodeL (c :: l)).1 : Int), ((decodeL (c :: l)).2 : Int)) := by
  unfold partL
  rw [if_neg (by simpa using hc)]
 refine ⟨fun h => ?_, fun h1 h2 => ⟨?_, ?_⟩⟩
 ·rw [hp, if_pos]
  unfold plainB
  rcases h with h | h
  ·rw [decide_eq_true (h32.2 h), Bool.true_or]
  ·rw [h] at hG
   have : ((decodeL (c :: l)).1 == 65533 && (decodeL (c :: l)).2 == 1) = true := by simpa using hG.symm
   rw [this, Bool.or_true]
 ·rw [hp, if_neg]
  unfold plainB
  rw [decide_eq_false (fun h => h1 (h32.1 h)), Bool.false_or]
  intro hx
  rw [h2, hx] at hG
  exact absurd hG (by decide)
 ·refine encode_decode (c :: l) (List.cons_ne_nil _ _) ?_
  rw [h2] at hG
  rintro ⟨a, b⟩
  rw [a, b] at hG
  simp at hG
theorem encS_bytes (r : Int × Int) (h : ¬ r.2 = 0) : encS r = bs (encodeRune r.1) := by
 unfold encS
 rw [if_neg h, ← encode_rune]
 rfl
set_option maxRecDepth 100000 in
set_option maxHeartbeats 4000000 in
theorem refRead_any (l : List UInt8) (a : Nat) (w : World) (hs : l.length ≤ 1073741824) (ha : a ≤ l.length) :
  Calls Tryz.prog 110 #[.string (bs l), .int .i64 a] w fun e w' => e = ReadE (readL l a) ∧ Below w.heap.size w w' := by
 have sl := bs_size l
 obtain ⟨R, hR⟩ : ∃ R, readL l a = R := ⟨_, rfl⟩
 rw [hR]
 unfold readL at hR
 rw [Int.toNat_natCast] at hR
 by_cases h34 : l[a]? = some 34
 ·rw [if_pos ⟨by omega, h34⟩] at hR
  have hal : a < l.length := (List.getElem?_eq_some_iff.1 h34).1
  have hal' : a < (bs l).size := by omega
  have t1 : ((((bs l)[a]'hal').toNat : Int) != 34) = false := by
   have := at_bs l a hal'
   rw [h34] at this
   have h2 : (bs l)[a]'hal' = 34 := by simpa using this.symm
   rw [h2]; rfl
  have t1' : (((bs l)[a]'hal').toNat : Int) = 34 := by simpa using t1
  have d1 : decide (l.length ≤ a) = false := decide_eq_false (by omega)
  have HR := Lib.hid hR; clear hR h34
  go_enter Tryz.func110, Tryz.ntmps110
  go_wp2_with fail
  go_loopw [7, 8, 9, 10, 11, 12, 13] (fun s7 s8 _ _ _ _ _ wr => ∃ (i f : Nat) (acc : List UInt8), s7 = .string (bs acc) ∧ s8 = .int .i64 i ∧ i ≤ l.length ∧ acc.length ≤ 4 * i ∧ l.length < i + f ∧ Hid (readGo f (l.drop i) i acc = R) ∧ Hid (Below w.heap.size w wr)) (fun _ s8 _ _ _ _ _ _ => l.length - (RowKit.intOf s8).toNat)
  case atStart => exact ⟨a + 1, l.length + 1, [], rfl, by go_num, by omega, by simp, by omega, HR.out, Below.refl _ _⟩
  case round =>
   obtain ⟨i, f, acc, rfl, rfl, hi, hacc, hf, HG, HW⟩ := hrel
   obtain ⟨g, rfl⟩ : ∃ g, f = g + 1 := ⟨f - 1, by omega⟩
   have sa := bs_size acc
   by_cases hlt : i < l.length
   ·have hlt' : i < (bs l).size := by omega
    have hdr : l.drop i = l[i]'hlt :: l.drop (i + 1) := List.drop_eq_getElem_cons hlt
    have hge := at_bs l i hlt'
    rw [List.getElem?_eq_getElem hlt] at hge
    have hge2 : (bs l)[i]'hlt' = l[i]'hlt := by simpa using hge.symm
    have T34 := byte_eq ((bs l)[i]'hlt') 34 34 rfl
    have T92 := byte_eq ((bs l)[i]'hlt') 92 92 rfl
    have hg := HG.out
    rw [hdr] at hg
    unfold readGo at hg
    rw [← hdr, ← hge2] at hg
    clear HG
    by_cases hq : (bs l)[i]'hlt' = 34
    ·rw [if_pos hq] at hg
     have HF := Lib.hid hg
     rw [beq_iff_eq.2 hq] at T34
     clear hg hdr hge hge2 hq T92
     go_wp2_with fail
     go_ret3
     exact ⟨by rw [← HF.out]; rfl, HW.out⟩
    ·rw [if_neg hq] at hg
     rw [beq_eq_false_iff_ne.2 hq] at T34
     have hne : l.drop i ≠ [] := by rw [hdr]; exact List.cons_ne_nil _ _
     have hpb := partL_bd (l.drop i) hne
     rw [List.length_drop] at hpb
     by_cases h92 : (bs l)[i]'hlt' = 92
     ·rw [beq_iff_eq.2 h92] at T92
      have hpe : partL (l.drop i) = escL (l.drop i) := by
       unfold partL
       rw [hdr, if_pos (by rw [List.head?_cons, ← hge2, h92])]
      obtain ⟨P, hP⟩ : ∃ P, partL (l.drop i) = P := ⟨_, rfl⟩
      have CE : Hid (∀ w, Calls Tryz.prog 168 #[.string (bs l), .int .i64 i] w fun e w' => e = RefW P ∧ Below w.heap.size w w') := Lib.hid (fun w => by
       have := refEscape_any (bs l) i w hlt' (by omega)
       rw [bs_data, ← hpe, hP] at this
       exact this)
      rw [hP] at hg hpb
      obtain ⟨rn, wd⟩ := P
      have hes := encS_bytes (rn, wd)
      unfold RefW at CE
      simp only [] at hg hpb CE hes
      obtain ⟨p0, p1, p2⟩ := hpb
      obtain ⟨E, hE⟩ : ∃ E, encS (rn, wd) = E := ⟨_, rfl⟩
      rw [hE] at CE hes
      have hz : w.heap.size ≤ wr.heap.size := HW.out.size
      clear hdr hge hge2 hq hne hP hpe h92 hE
      by_cases hw0 : wd = 0
      ·rw [if_pos hw0] at hg
       have HF := Lib.hid hg
       subst hw0
       clear hg p2 hes
       go_wp2_with fail
       refine (CE.out _).mono ?_
       rintro e w1 ⟨rfl, hb1⟩
       go_wp2_with fail
       go_ret3
       exact ⟨by rw [← HF.out]; rfl, HW.out.trans (hb1.mono hz)⟩
      ·rw [if_neg hw0] at hg
       have hEb := hes hw0
       subst hEb
       obtain ⟨N, rfl⟩ : ∃ N : Nat, wd = N := ⟨wd.toNat, by omega⟩
       rw [Int.toNat_natCast, List.drop_drop] at hg
       have hN : 1 ≤ N ∧ N ≤ l.length - i := by omega
       have hl4 := Lib.runeCells_le rn
       rw [Lib.runeCells_length] at hl4
       have se := bs_size (Lib.encodeRune rn)
       have hw1 : ((N : Int) == 0) = false := beq_eq_false_iff_ne.2 hw0
       have hcat : ¬ 9223372036854775807 < (bs acc).size + (bs (Lib.encodeRune rn)).size := by omega
       have HG2 := Lib.hid hg
       clear hg hw0 p2 hes
       go_wp2_with fail
       refine (CE.out _).mono ?_
       rintro e w1 ⟨rfl, hb1⟩
       have HW1 := Lib.hid (HW.out.trans (hb1.mono hz))
       clear hb1
       go_wp2_with fail
       go_roundw
       case rel => exact ⟨i + N, g, acc ++ Lib.encodeRune rn, by first | rw [bs_append] | (congr 1; exact (bs_append _ _)) | rfl, by go_num, by omega, by rw [List.length_append]; omega, by omega, HG2.out, HW1.out⟩
       case measure => simp [RowKit.intOf]; omega
     ·rw [beq_eq_false_iff_ne.2 h92] at T92
      have hc92 : ¬ l[i]'hlt = 92 := by rw [← hge2]; exact h92
      have hdec := decodeL_drop (bs l) i
      rw [bs_data] at hdec
      have hpl := partL_plain (l.drop (i + 1)) (l[i]'hlt) hc92 (goodB (bs l) i) (by
       rw [← hdr, hdec]
       unfold goodB runeI widN
       rw [Bool.eq_iff_iff]; simp; omega)
      rw [← hdr, hdec] at hpl
      have CG := Lib.hid (fun w => good_at (bs l) i w hlt' (by omega))
      have CN := Lib.hid (fun w => refNext_at (bs l) i w hlt' (by omega))
      have hwb := widN_bd (bs l) i hlt'
      have hge3 : (l[i]'hlt).toNat = ((bs l)[i]'hlt').toNat := by rw [hge2]
      rw [hge3] at hpl
      obtain ⟨RU, hRU⟩ : ∃ RU, runeI (bs l) i = RU := ⟨_, rfl⟩
      obtain ⟨WD, hWD⟩ : ∃ WD, widN (bs l) i = WD := ⟨_, rfl⟩
      obtain ⟨GB, hGB⟩ : ∃ GB, goodB (bs l) i = GB := ⟨_, rfl⟩
      have e1 : ((Utf8.decode (bs l) i).1 : Int) = RU := hRU
      have e2 : (Utf8.decode (bs l) i).2 = WD := hWD
      rw [e1, e2, hGB] at hpl
      rw [hGB] at CG
      rw [hRU, hWD] at CN
      rw [hWD] at hwb
      obtain ⟨hp1, hp2⟩ := hpl
      clear hdec hRU hWD hGB e1 e2 hc92 hge3 hdr hge hge2 hq hne h92 hpb
      by_cases hb32 : ((bs l)[i]'hlt').toNat < 32 ∨ GB = false
      ·have hP := hp1 hb32
       rw [hP, if_pos rfl] at hg
       have HF := Lib.hid hg
       clear hg hP hp1 hp2
       by_cases h3 : (((bs l)[i]'hlt').toNat : Int) < 32
       ·clear hb32
        go_wp2_with (go_at_call 111; refine (CG.out _).mono ?_; rintro e w' ⟨rfl, rfl⟩)
        go_ret3
        exact ⟨by rw [← HF.out]; rfl, HW.out⟩
       ·have : GB = false := hb32.resolve_left (by omega)
        subst this
        clear hb32
        go_wp2_with (go_at_call 111; refine (CG.out _).mono ?_; rintro e w' ⟨rfl, rfl⟩)
        go_ret3
        exact ⟨by rw [← HF.out]; rfl, HW.out⟩
      ·have h3 : ¬ (((bs l)[i]'hlt').toNat : Int) < 32 := by omega
       have hGt : GB = true := by cases GB with | true => rfl | false => exact absurd (.inr rfl) hb32
       subst hGt
       obtain ⟨hP, hEn⟩ := hp2 (by omega) rfl
       rw [hP] at hg
       simp only [] at hg
       rw [if_neg (by omega), Int.toNat_natCast, List.drop_drop, hEn] at hg
       have HG2 := Lib.hid hg
       have hsl : (bs l).extract i (i + WD) = bs ((l.drop i).take WD) := by
        apply ByteArray.ext
        apply Array.ext'
        simp [bs, List.drop_take]
       have stk := bs_size ((l.drop i).take WD)
       rw [List.length_take, List.length_drop] at stk
       have hcat : ¬ 9223372036854775807 < (bs acc).size + (bs ((l.drop i).take WD)).size := by omega
       clear hb32 hg hP hEn hp1 hp2
       go_wp2_with (go_at_call 111; refine (CG.out _).mono ?_; rintro e w' ⟨rfl, rfl⟩)
       refine (CN.out _).mono ?_
       rintro e w' ⟨rfl, rfl⟩
       go_wp2_with fail
       go_roundw
       case rel => exact ⟨i + WD, g, acc ++ (l.drop i).take WD, by congr 1 <;> first | rw [hsl, bs_append] | rw [hsl] | rfl, by go_num, by omega, by rw [List.length_append, List.length_take, List.length_drop]; omega, by omega, HG2.out, HW.out⟩
       case measure => simp [RowKit.intOf]; omega
   ·have hg := HG.out
    rw [List.drop_of_length_le (by omega)] at hg
    have HF := Lib.hid (show ([], (i : Int), 2) = R from hg)
    obtain rfl : i = l.length := by omega
    clear hg HG
    go_wp2_with fail
    go_ret3
    exact ⟨by rw [← HF.out]; rfl, HW.out⟩
 ·rw [if_neg (fun h => h34 h.2)] at hR
  subst hR
  by_cases hal : a < l.length
  ·have hal' : a < (bs l).size := by omega
   have t1 : ((((bs l)[a]'hal').toNat : Int) != 34) = true := by
    rw [bne_iff_ne]
    intro h
    refine h34 ?_
    rw [at_bs l a hal']
    congr 1
    exact UInt8.toNat_inj.1 (by have : ((34 : UInt8).toNat) = 34 := rfl; omega)
   clear h34
   go_enter Tryz.func110, Tryz.ntmps110
   go_wp2_with fail
   go_ret3
   exact ⟨rfl, Below.refl _ _⟩
  ·obtain rfl : a = l.length := by omega
   clear h34
   go_enter Tryz.func110, Tryz.ntmps110
   go_wp2_with fail
   go_ret3
   exact ⟨rfl, Below.refl _ _⟩
end Go.Proofs.YtbldfpkfinpciaaGreatDoor
namespace Go.Proofs.YtbldfpkfinpciaaGreatDoor
set_option linter.unusedSimpArgs false
set_option linter.unusedVariables false
open Go.RowKit
open Go.Lib hiding intOf
theorem refEnd_any (l : List UInt8) (a : Int) (w : World) (hs : l.length ≤ 1073741824) :
  Calls Tryz.prog 183 #[.string (bs l), .int .i64 a] w fun e w' => e = .returned (.tuple #[.int .i64 (endL l a).1, .int .i64 (endL l a).2]) ∧ Below w.heap.size w w' := by
 have sl := bs_size l
 unfold endL
 by_cases h : a < 0 ∨ (l.length : Int) < a
 ·rw [if_pos h]
  rcases h with h | h
  all_goals
   go_enter Tryz.func183, Tryz.ntmps183
   go_wp2_with fail
   go_ret2
   exact ⟨rfl, Below.refl _ _⟩
 ·rw [if_neg h]
  have h1 : 0 ≤ a := by omega
  have h2 : a ≤ l.length := by omega
  have C := refRead_any l a.toNat w hs (by omega)
  rw [show ((a.toNat : Nat) : Int) = a by omega] at C
  obtain ⟨R, hR⟩ : ∃ R, readL l a = R := ⟨_, rfl⟩
  obtain ⟨s, k, er⟩ := R
  rw [hR] at C ⊢
  have HC := Lib.hid C
  clear C hR h
  go_enter Tryz.func183, Tryz.ntmps183
  go_wp2_with fail
  refine HC.out.mono ?_
  unfold ReadE
  rintro e w1 ⟨rfl, hb1⟩
  go_wp2_with fail
  go_ret2
  exact ⟨rfl, hb1⟩
end Go.Proofs.YtbldfpkfinpciaaGreatDoor
namespace Go.Proofs.YtbldfpkfinpciaaGreatDoor
set_option linter.unusedSimpArgs false
set_option linter.unusedVariables false
open Go.RowKit
open Go.Lib hiding intOf
theorem refUnquote_any (l : List UInt8) (w : World) (hs : l.length ≤ 1073741824) :
  Calls Tryz.prog 61 #[.string (bs l)] w fun e w' => e = ReadE (unqL l) ∧ Below w.heap.size w w' := by
 have sl := bs_size l
 have C := refRead_any l 0 w hs (by omega)
 have hq : unqL l = if (readL l 0).2.2 = 0 ∧ (readL l 0).2.1 < l.length then ([], (readL l 0).2.1, 2) else readL l 0 := rfl
 obtain ⟨R, hR⟩ : ∃ R, readL l 0 = R := ⟨_, rfl⟩
 obtain ⟨s, k, er⟩ := R
 rw [show ((0 : Nat) : Int) = 0 from rfl, hR] at C
 rw [hR] at hq
 simp only [] at hq
 have HC := Lib.hid C
 clear C hR
 by_cases h1 : er = 0
 ·subst h1
  by_cases h2 : k < l.length
  ·rw [hq, if_pos ⟨rfl, h2⟩]
   clear hq
   go_enter Tryz.func61, Tryz.ntmps61
   go_wp2_with fail
   refine HC.out.mono ?_
   unfold ReadE
   rintro e w1 ⟨rfl, hb1⟩
   go_wp2_with fail
   go_ret3
   exact ⟨rfl, hb1⟩
  ·rw [hq, if_neg (fun h => h2 h.2)]
   clear hq
   go_enter Tryz.func61, Tryz.ntmps61
   go_wp2_with fail
   refine HC.out.mono ?_
   unfold ReadE
   rintro e w1 ⟨rfl, hb1⟩
   go_wp2_with fail
   go_ret3
   exact ⟨rfl, hb1⟩
 ·rw [hq, if_neg (fun h => h1 h.1)]
  have t1 : (er == 0) = false := beq_eq_false_iff_ne.2 h1
  clear hq h1
  go_enter Tryz.func61, Tryz.ntmps61
  go_wp2_with fail
  refine HC.out.mono ?_
  unfold ReadE
  rintro e w1 ⟨rfl, hb1⟩
  go_wp2_with fail
  go_ret3
  exact ⟨rfl, hb1⟩
def letterI (n : Int) : Int := if n = 34 then 34 else if n = 92 then 92 else if n = 8 then 98 else if n = 12 then 102 else if n = 10 then 110 else if n = 13 then 114 else if n = 9 then 116 else 0
set_option maxHeartbeats 1000000 in
theorem letter_any (n : Int) (w : World) :
  Calls Tryz.prog 156 #[.int .i32 n] w fun e w' => e = .returned (.int .u8 (letterI n)) ∧ w = w' := by
 obtain ⟨R, hR⟩ : ∃ R, letterI n = R := ⟨_, rfl⟩
 rw [hR]
 unfold letterI at hR
 by_cases c0 : n = 34
 ·rw [if_pos c0] at hR; subst hR c0
  go_enter Tryz.func156, Tryz.ntmps156
  go_wp2_with fail
  go_ret
  exact ⟨rfl, rfl⟩
 rw [if_neg c0] at hR
 have d0 : (n == 34) = false := beq_eq_false_iff_ne.2 c0
 by_cases c1 : n = 92
 ·rw [if_pos c1] at hR; subst hR c1
  go_enter Tryz.func156, Tryz.ntmps156
  go_wp2_with fail
  go_ret
  exact ⟨rfl, rfl⟩
 rw [if_neg c1] at hR
 have d1 : (n == 92) = false := beq_eq_false_iff_ne.2 c1
 by_cases c2 : n = 8
 ·rw [if_pos c2] at hR; subst hR c2
  go_enter Tryz.func156, Tryz.ntmps156
  go_wp2_with fail
  go_ret
  exact ⟨rfl, rfl⟩
 rw [if_neg c2] at hR
 have d2 : (n == 8) = false := beq_eq_false_iff_ne.2 c2
 by_cases c3 : n = 12
 ·rw [if_pos c3] at hR; subst hR c3
  go_enter Tryz.func156, Tryz.ntmps156
  go_wp2_with fail
  go_ret
  exact ⟨rfl, rfl⟩
 rw [if_neg c3] at hR
 have d3 : (n == 12) = false := beq_eq_false_iff_ne.2 c3
 by_cases c4 : n = 10
 ·rw [if_pos c4] at hR; subst hR c4
  go_enter Tryz.func156, Tryz.ntmps156
  go_wp2_with fail
  go_ret
  exact ⟨rfl, rfl⟩
 rw [if_neg c4] at hR
 have d4 : (n == 10) = false := beq_eq_false_iff_ne.2 c4
 by_cases c5 : n = 13
 ·rw [if_pos c5] at hR; subst hR c5
  go_enter Tryz.func156, Tryz.ntmps156
  go_wp2_with fail
  go_ret
  exact ⟨rfl, rfl⟩
 rw [if_neg c5] at hR
 have d5 : (n == 13) = false := beq_eq_false_iff_ne.2 c5
 by_cases c6 : n = 9
 ·rw [if_pos c6] at hR; subst hR c6
  go_enter Tryz.func156, Tryz.ntmps156
  go_wp2_with fail
  go_ret
  exact ⟨rfl, rfl⟩
 rw [if_neg c6] at hR
 have d6 : (n == 9) = false := beq_eq_false_iff_ne.2 c6
 subst hR
 go_enter Tryz.func156, Tryz.ntmps156
 go_wp2_with fail
 go_ret
 exact ⟨rfl, rfl⟩
end Go.Proofs.YtbldfpkfinpciaaGreatDoor
namespace Go.Proofs.YtbldfpkfinpciaaGreatDoor
set_option linter.unusedSimpArgs false
set_option linter.unusedVariables false
open Go.RowKit
open Go.Lib hiding intOf
set_option maxHeartbeats 1000000 in
theorem refValid_any (s : ByteArray) (w : World) (hs : s.size ≤ 4611686018427387904) :
  Calls Tryz.prog 122 #[.string s] w fun e w' => e = .returned (.tuple #[.int .i64 (validRes s).1, .bool (validRes s).2]) ∧ w = w' := by
 obtain ⟨R, hR⟩ : ∃ R, validRes s = R := ⟨_, rfl⟩
 rw [hR]
 have HR := Lib.hid hR; clear hR
 go_enter Tryz.func122, Tryz.ntmps122
 go_wp2_with fail
 go_loop [4] (fun a => ∃ pos : Nat, pos ≤ s.size ∧ a = .int .i64 pos ∧ Hid (Bads s pos)) (fun a => s.size - (intOf a).toNat)
 case atStart => exact ⟨0, by omega, rfl, Bads.zero s⟩
 case round =>
  obtain ⟨pos, hp, rfl, HB⟩ := hrel
  by_cases hlt : pos < s.size
  ·have hw := widN_bd s pos hlt
   cases hg : goodB s pos with
   | true =>
    have HG := Lib.hid hg
    have hgc := good_at s pos w hlt hs
    rw [hg] at hgc; clear hg
    have HGC := Lib.hid hgc; clear hgc
    go_wp2_with (first | (go_at_call 111; refine HGC.out.mono ?_; rintro e w' ⟨rfl, rfl⟩) | (go_at_call 112; refine (refNext_at s pos _ hlt hs).mono ?_; rintro e w' ⟨rfl, rfl⟩))
    go_round
    case rel => exact ⟨pos + widN s pos, by omega, by go_num, HB.out.next hlt HG.out⟩
    case measure => simp [intOf]; omega
   | false =>
    have HG := Lib.hid hg
    have hgc := good_at s pos w hlt hs
    rw [hg] at hgc; clear hg
    have HGC := Lib.hid hgc; clear hgc
    go_wp2_with (go_at_call 111; refine HGC.out.mono ?_; rintro e w' ⟨rfl, rfl⟩)
    go_ret2
    exact ⟨ret_vb (HR.out.symm.trans (HB.out.bad hlt HG.out)), rfl⟩
  ·go_wp2_with fail
   go_ret2
   exact ⟨ret_vb (HR.out.symm.trans (HB.out.fin (by omega))), rfl⟩
set_option maxHeartbeats 1000000 in
theorem valid_any (s : ByteArray) (w : World) (hs : s.size ≤ 4611686018427387904) (hT : Tabs w) :
  Calls Tryz.prog 56 #[.string s] w fun e w' => e = .returned (.tuple #[.int .i64 (validRes s).1, .bool (validRes s).2]) ∧ Below w.heap.size w w' := by
 obtain ⟨R, hR⟩ : ∃ R, validRes s = R := ⟨_, rfl⟩
 rw [hR]
 have HR := Lib.hid hR; clear hR
 cases hv : Lib.validD s.data.toList with
 | true =>
  have h0 := validRes_yes hv
  have hc := Tryz.utf8_ValidString s w (by omega) hT
  rw [hv] at hc; clear hv
  have HC := Lib.hid hc; clear hc
  have H0 := Lib.hid h0; clear h0
  go_enter Tryz.func56, Tryz.ntmps56
  go_wp2_with (go_at_call 100; refine HC.out.mono ?_; rintro e w' ⟨rfl, hb⟩)
  go_ret2
  exact ⟨ret_vb (HR.out.symm.trans H0.out), hb⟩
 | false =>
  have hc := Tryz.utf8_ValidString s w (by omega) hT
  rw [hv] at hc; clear hv
  have HC := Lib.hid hc; clear hc
  go_enter Tryz.func56, Tryz.ntmps56
  go_wp2_with (go_at_call 100; refine HC.out.mono ?_; rintro e w1 ⟨rfl, hb1⟩)
  have hT1 := hT.keep hb1
  have hz := hb1.size
  have hw1 : Hid (Below w.heap.size w w1) := hb1
  obtain ⟨hc1, hf1⟩ := bcell hb1
  clear hb1 hc1 hf1
  go_loopw [4] (fun _ wr => ∃ pos : Nat, pos ≤ s.size ∧ Hid (Bads s pos) ∧ Hid (wr.heap[w1.heap.size]? = some (.stringIter s pos)) ∧ Hid (Below w1.heap.size w1 wr)) (fun _ wr => s.size - wr.iterPos w1.heap.size)
  case atStart => exact ⟨0, by omega, Bads.zero s, World.iter_heap w1 s 0, (Below.refl _ _).alloc (Nat.le_refl _) _⟩
  case round =>
   obtain ⟨pos, hp, HB, HI, HW⟩ := hrel
   by_cases hlt : pos < s.size
   ·have hw := widN_bd s pos hlt
    have hrb := runeI_bd s pos
    have hnx : ∀ ty, (Instr.next (.pointer (some ⟨w1.heap.size, 0, none⟩)) true ty).run Tryz.prog wr = .ok (.tuple #[.bool true, .int .i64 pos, .int .i32 (runeI s pos)]) (wr.iterAt w1.heap.size s (pos + widN s pos)) := fun ty => Lib.run_next_any_at wr _ s pos ty HI.out hlt
    have HI2 := Lib.hid (Lib.iterAt_heap wr w1.heap.size s pos (pos + widN s pos) HI.out)
    have HW2 := Lib.hid (Lib.below_iterAt HW.out (Nat.le_refl w1.heap.size) s (pos + widN s pos))
    have hT2 : Tabs (wr.iterAt w1.heap.size s (pos + widN s pos)) := hT1.keep HW2.out
    have HM := Lib.hid (iterPos_of HI.out)
    have HM2 := Lib.hid (iterPos_of HI2.out)
    by_cases hr : runeI s pos = 65533
    ·by_cases h1 : widN s pos = 1
     ·have HG := Lib.hid (goodB_no hr h1)
      have hrB : (runeI s pos != 65533) = false := by rw [hr]; rfl
      have h1B : (((widN s pos : Nat) : Int) == 1) = true := by rw [h1]; rfl
      clear hr h1
      go_wp2_with (go_at_call 101; refine (dec_at s pos _ hlt hT2).mono ?_; rintro e w' ⟨rfl, hb⟩)
      go_ret2
      exact ⟨ret_vb (HR.out.symm.trans (HB.out.bad hlt HG.out)), hw1.out.trans ((HW2.out.trans (hb.mono HW2.out.size)).mono hw1.out.size)⟩
     ·have HG := Lib.hid (goodB_wide h1)
      have hrB : (runeI s pos != 65533) = false := by rw [hr]; rfl
      have h1B : (((widN s pos : Nat) : Int) == 1) = false := beq_eq_false_iff_ne.2 (by omega)
      clear hr h1
      go_wp2_with (go_at_call 101; refine (dec_at s pos _ hlt hT2).mono ?_; rintro e w' ⟨rfl, hb⟩)
      have HI3 := (hb.block w1.heap.size (cell_it HI2.out)).trans HI2.out
      go_roundw
      case rel => exact ⟨pos + widN s pos, by omega, HB.out.next hlt HG.out, HI3, HW2.out.trans (hb.mono HW2.out.size)⟩
      case measure => rw [iterPos_of HI3, HM.out]; omega
    ·have HG := Lib.hid (goodB_rune hr)
     have hrB : (runeI s pos != 65533) = true := bne_iff_ne.2 hr
     clear hr
     go_wp2
     go_roundw
     case rel => exact ⟨pos + widN s pos, by omega, HB.out.next hlt HG.out, HI2.out, HW2.out⟩
     case measure => rw [HM2.out, HM.out]; omega
   ·have hnx : ∀ ty, (Instr.next (.pointer (some ⟨w1.heap.size, 0, none⟩)) true ty).run Tryz.prog wr = .ok (.tuple #[.bool false]) wr := fun ty => Lib.run_next_end_at wr _ s pos ty HI.out hlt
    go_wp2
    go_ret2
    exact ⟨ret_vb (HR.out.symm.trans (HB.out.fin (by omega))), hw1.out.trans (HW.out.mono hw1.out.size)⟩
end Go.Proofs.YtbldfpkfinpciaaGreatDoor
namespace Go.Proofs.YtbldfpkfinpciaaGreatDoor
set_option linter.unusedSimpArgs false
set_option linter.unusedVariables false
open Go.RowKit
open Go.Lib hiding intOf
def QuoteE (r : List UInt8 × Int) : Ending := .returned (.tuple #[.string (bs r.1), .int .i64 r.2])
theorem validRes_snd (s : ByteArray) : (validRes s).2 = validD s.data.toList := by
 rw [validD_bad]
 unfold validRes
 cases badAt s <;> rfl
end Go.Proofs.YtbldfpkfinpciaaGreatDoor
namespace Go.Proofs.YtbldfpkfinpciaaGreatDoor
set_option linter.unusedSimpArgs false
set_option linter.unusedVariables false
open Go.RowKit
open Go.Lib hiding intOf
theorem rune_step (l : List UInt8) (p : Nat) (hp : p < l.length) (hv : validD (l.drop p) = true) :
  ∃ r, okRune r ∧ runeI (bs l) p = r ∧ widN (bs l) p = (encodeRune r).length ∧ validD (l.drop (p + widN (bs l) p)) = true ∧ qBs (l.take (p + widN (bs l) p)) = qBs (l.take p) ++ qBs (encodeRune r) := by
 have hne : l.drop p ≠ [] := by
  intro h
  have := congrArg List.length h
  rw [List.length_drop] at this
  simp at this; omega
 obtain ⟨r, t, hr, he, ht, hd⟩ := valid_cut _ hne hv
 have hdd := decodeL_drop (bs l) p
 rw [bs_data, hd] at hdd
 have hw : widN (bs l) p = (encodeRune r).length := by unfold widN; rw [← hdd]
 refine ⟨r, hr, ?_, hw, ?_, ?_⟩
 ·unfold runeI
  rw [← hdd]
  exact Int.toNat_of_nonneg hr.1
 ·rw [hw, ← List.drop_drop, he, List.drop_left]
  exact ht
 ·rw [hw, ← qBs_append]
  congr 1
  rw [List.take_add, he, List.take_left]
def Kind (r : Int) : Prop := (∃ L : UInt8, letterI r = (L.toNat : Int) ∧ (L.toNat : Int) ≠ 0 ∧ qBs (encodeRune r) = [92, L]) ∨ (∃ c : Nat, r = c ∧ c < 32 ∧ letterI r = 0 ∧ qBs (encodeRune r) = [92, 117] ++ (List.replicate (4 - (hexS c).length) 48 ++ hexS c)) ∨ (32 ≤ r ∧ letterI r = 0 ∧ qBs (encodeRune r) = encodeRune r)
theorem kind_low : ∀ n : Fin 128, let c := UInt8.ofNat n.val
  ((letterI n.val).toNat < 256 ∧ 0 ≤ letterI n.val) ∧
  (letterI n.val ≠ 0 ∧ qB c = [92, UInt8.ofNat (letterI n.val).toNat]) ∨
  (n.val < 32 ∧ letterI n.val = 0 ∧ qB c = [92, 117] ++ (List.replicate (4 - (hexS n.val).length) 48 ++ hexS n.val)) ∨
  (32 ≤ n.val ∧ letterI n.val = 0 ∧ qB c = [c]) := by decide +kernel
theorem letter_bd (n : Int) : 0 ≤ letterI n ∧ letterI n < 256 := by
 unfold letterI
 repeat' split
 all_goals simp
theorem kind_of (r : Int) (h : okRune r) : Kind r := by
 by_cases h128 : r < 128
 ·have h0 := h.1
  obtain ⟨n, hn⟩ : ∃ n : Nat, r = n := ⟨r.toNat, by omega⟩
  subst hn
  have hc : encodeRune (n : Int) = [UInt8.ofNat n] := by
   have := encode_one (UInt8.ofNat n) (by rw [UInt8.toNat_ofNat']; omega)
   rw [UInt8.toNat_ofNat', Nat.mod_eq_of_lt (show n < 256 by omega)] at this
   exact this
  have hk := kind_low ⟨n, by omega⟩
  simp only [] at hk
  unfold Kind
  rw [hc, show qBs [UInt8.ofNat n] = qB (UInt8.ofNat n) by simp [qBs]]
  rcases hk with ⟨_, h1, h2⟩ | ⟨h1, h2, h3⟩ | ⟨h1, h2, h3⟩
  ·have hb := letter_bd (n : Int)
   have e : (letterI (n : Int)) = ((UInt8.ofNat (letterI (n : Int)).toNat).toNat : Int) := by rw [UInt8.toNat_ofNat']; omega
   exact .inl ⟨UInt8.ofNat (letterI (n : Int)).toNat, e, by rw [← e]; exact h1, h2⟩
  ·exact .inr (.inl ⟨n, rfl, h1, h2, h3⟩)
  ·exact .inr (.inr ⟨by omega, h2, h3⟩)
 ·refine .inr (.inr ⟨by omega, ?_, qBs_high _ (encode_high r h (by omega))⟩)
  unfold letterI
  rw [if_neg (by omega), if_neg (by omega), if_neg (by omega), if_neg (by omega), if_neg (by omega), if_neg (by omega), if_neg (by omega)]
theorem cat3_ (Z X : List UInt8) : (⟨([92, 117] ++ (Z ++ X)).toArray⟩ : ByteArray) = (⟨#[92, 117]⟩ : ByteArray) ++ bs Z ++ bs X := by
 have h1 : (⟨#[92, 117]⟩ : ByteArray) = bs [92, 117] := rfl
 have h2 : (⟨([92, 117] ++ (Z ++ X)).toArray⟩ : ByteArray) = bs ([92, 117] ++ (Z ++ X)) := rfl
 rw [h1, h2, bs_append, bs_append, List.append_assoc]
def Rv (l : List UInt8) (p : Nat) (o : List UInt8) : Prop := o = 34 :: qBs (l.take p) ∧ validD (l.drop p) = true
theorem rv_next {l : List UInt8} {p : Nat} {o : List UInt8} (h : Rv l p o) (hp : p < l.length) : ∃ r, okRune r ∧ Kind r ∧ runeI (bs l) p = r ∧ widN (bs l) p = (encodeRune r).length ∧ Rv l (p + widN (bs l) p) (o ++ qBs (encodeRune r)) := by
 obtain ⟨r, h1, h2, h3, h4, h5⟩ := rune_step l p hp h.2
 exact ⟨r, h1, kind_of r h1, h2, h3, by rw [h.1, h5]; rfl, h4⟩
set_option maxRecDepth 100000 in
set_option maxHeartbeats 4000000 in
theorem quote_any (l : List UInt8) (w : World) (hs : l.length ≤ 536870912) (hT : Tabs w) (hD : DTab w) :
  Calls Tryz.prog 104 #[.string (bs l)] w fun e w' => e = QuoteE (quoteL l) ∧ Below w.heap.size w w' := by
 have sl := bs_size l
 have C := valid_any (bs l) w (by omega) hT
 rw [validRes_snd, bs_data] at C
 obtain ⟨N, hN⟩ : ∃ N, (validRes (bs l)).1 = N := ⟨_, rfl⟩
 rw [hN] at C
 clear hN
 obtain ⟨R, hR⟩ : ∃ R, quoteL l = R := ⟨_, rfl⟩
 rw [hR]
 unfold quoteL at hR
 have HD := Lib.hid hD; clear hD hT
 cases hv : validD l with
 | false =>
  rw [hv] at C hR
  rw [if_neg (by simp)] at hR
  subst hR
  have HC := Lib.hid C
  clear C hv
  go_enter Tryz.func104, Tryz.ntmps104
  go_wp2_with fail
  refine HC.out.mono ?_
  rintro e w1 ⟨rfl, hb1⟩
  go_wp2_with fail
  go_ret2
  exact ⟨rfl, hb1⟩
 | true =>
  rw [hv] at C hR
  rw [if_pos rfl] at hR
  have HR := Lib.hid hR
  have HC := Lib.hid C
  have HV := Lib.hid hv
  clear C hv hR
  go_enter Tryz.func104, Tryz.ntmps104
  go_wp2_with fail
  refine HC.out.mono ?_
  rintro e w1 ⟨rfl, hb1⟩
  have HB1 := Lib.hid hb1; clear hb1
  go_wp2_with fail
  refine (writeByte_any w1.heap.size w1.heap.size [] 34 _ (Bld.new w1) (by simp) (by simp)).mono ?_
  rintro e w2 ⟨rfl, h2, b2, _⟩
  have HBd2 := Lib.hid h2
  have HW2 := Lib.hid ((below_alloc1 w1 _).trans b2)
  have hz2 : w1.heap.size < w2.heap.size := by have := b2.size; simp at this; omega
  clear h2 b2
  go_wp2_with fail
  go_loopw [8] (fun _ wr => ∃ (p : Nat) (o : List UInt8), p ≤ l.length ∧ o.length ≤ 6 * p + 1 ∧ Hid (Rv l p o) ∧ Hid (wr.heap[w2.heap.size]? = some (.stringIter (bs l) p)) ∧ Hid (Bld w1.heap.size w1.heap.size o wr) ∧ Hid (Below w1.heap.size w1 wr)) (fun _ wr => l.length - wr.iterPos w2.heap.size)
  case atStart => exact ⟨0, [34], by omega, by simp, ⟨rfl, HV.out⟩, World.iter_heap w2 (bs l) 0, HBd2.out.keep (below_alloc1 _ _), HW2.out.trans ((below_alloc1 w2 _).mono (Nat.le_of_lt hz2))⟩
  case round =>
   obtain ⟨p, o, hp, hol, HQ, HI, HBd, HW⟩ := hrel
   by_cases hlt : p < l.length
   ·have hlt' : p < (bs l).size := by omega
    obtain ⟨r, hro, hk, hr, hwid, hq⟩ := rv_next HQ.out hlt
    have hwb := widN_bd (bs l) p hlt'
    have hnx : ∀ ty, (Instr.next (.pointer (some ⟨w2.heap.size, 0, none⟩)) true ty).run Tryz.prog wr = .ok (.tuple #[.bool true, .int .i64 p, .int .i32 r]) (wr.iterAt w2.heap.size (bs l) (p + widN (bs l) p)) := fun ty => by
     have := Lib.run_next_any_at (P := Tryz.prog) wr _ (bs l) p ty HI.out hlt'
     unfold runeI at hr
     rw [hr] at this
     exact this
    have HI2 := Lib.hid (Lib.iterAt_heap wr w2.heap.size (bs l) p (p + widN (bs l) p) HI.out)
    have HBd2 : Hid (Bld w1.heap.size w1.heap.size o (wr.iterAt w2.heap.size (bs l) (p + widN (bs l) p))) := Lib.hid (Lib.IsBuilderF.iterAt HBd.out HI.out _)
    have HW2 := Lib.hid (Lib.below_iterAt HW.out (Nat.le_of_lt hz2) (bs l) (p + widN (bs l) p))
    have HM := Lib.hid (iterPos_of HI.out)
    obtain ⟨wd, hwd⟩ : ∃ wd, widN (bs l) p = wd := ⟨_, rfl⟩
    rw [hwd] at hwid hq hwb hnx HI2 HBd2 HW2
    have HQ2 := Lib.hid hq
    clear hr hq HQ HI HBd HW hwd
    have hlen : (encodeRune r).length ≤ 4 := by rw [← hwid]; exact hwb.2.1
    have hql := qBs_len (encodeRune r)
    rw [← hwid] at hql
    have hr0 := hro.1
    have hr1 := hro.2.1
    have CL := Lib.hid (fun w => letter_any r w)
    clear hro hwid
    rcases hk with ⟨L, hL, hL0, hq⟩ | ⟨c, hc, hc32, hL, hq⟩ | ⟨h32, hL, hq⟩
    ·rw [hL] at CL
     rw [hq] at HQ2 hql
     have hLb : (((L.toNat : Nat) : Int) != 0) = true := bne_iff_ne.2 hL0
     clear hL hq hL0
     go_wp2_with fail
     refine (CL.out _).mono ?_
     rintro e w' ⟨rfl, rfl⟩
     go_wp2_with fail
     refine (writeByte_any w1.heap.size w1.heap.size o 92 _ HBd2.out (by omega) HW2.out.size).mono ?_
     rintro e w3 ⟨rfl, h3, b3, k3⟩
     have HI3 := Lib.hid (k3.iter HI2.out (by omega))
     have HBd3 := Lib.hid h3
     have HW3 := Lib.hid (HW2.out.trans b3)
     clear h3 b3 k3
     go_wp2_with fail
     refine (writeByte_any w1.heap.size w1.heap.size (o ++ [92]) L _ HBd3.out (by simp; omega) HW3.out.size).mono ?_
     rintro e w4 ⟨rfl, h4, b4, k4⟩
     have HI4 := Lib.hid (k4.iter HI3.out (by omega))
     have HBd4 := Lib.hid h4
     have HW4 := Lib.hid (HW3.out.trans b4)
     clear h4 b4 k4
     go_wp2_with fail
     go_roundw
     case rel => exact ⟨p + wd, o ++ [92, L], by omega, by simp at *; omega, HQ2.out, HI4.out, by have := HBd4.out; rw [List.append_assoc] at this; exact this, HW4.out⟩
     case measure => rw [iterPos_of HI4.out, HM.out]; omega
    ·rw [hL] at CL
     rw [hq] at HQ2 hql
     subst hc
     have hge : decide ((32 : Int) ≤ (c : Int)) = false := decide_eq_false (by omega)
     have CF := Lib.hid (fun w hT => fmt16_any c hc32 w hT)
     obtain ⟨hzl, hz4⟩ : 1 ≤ (hexS c).length ∧ (hexS c).length ≤ 4 := ⟨by unfold hexS; split <;> simp, by unfold hexS; split <;> simp⟩
     obtain ⟨X, hX⟩ : ∃ X, hexS c = X := ⟨_, rfl⟩
     rw [hX] at HQ2 hql CF hzl hz4
     obtain ⟨Y, hY⟩ : ∃ Y, 4 - X.length = Y := ⟨_, rfl⟩
     rw [hY] at HQ2 hql
     have CZ := Lib.hid (fun w => zeros_any Y w (by omega))
     obtain ⟨Z, hZ⟩ : ∃ Z, List.replicate Y (48 : UInt8) = Z := ⟨_, rfl⟩
     have hZl : Z.length = Y := by rw [← hZ, List.length_replicate]
     rw [hZ] at HQ2 hql CZ
     have hXs := bs_size X
     have hZs : (bs Z).size = Y := by rw [bs_size, hZl]
     have h4z : (4 : Int) - (X.length : Int) = (Y : Int) := by omega
     have hY3 : Y ≤ 3 := by omega
     have HZl := Lib.hid hZl
     have HY := Lib.hid hY
     clear hL hq hX hZ hZl hY
     go_wp2_with fail
     refine (CL.out _).mono ?_
     rintro e w' ⟨rfl, rfl⟩
     go_wp2_with fail
     refine (CF.out _ (HD.out.keep (below_of_new HB1.out HW2.out))).mono ?_
     rintro e w3 ⟨rfl, b3⟩
     have HI3 := Lib.hid ((b3.block w2.heap.size (cell_it HI2.out)).trans HI2.out)
     have HBd3 := Lib.hid (HBd2.out.keep b3)
     have HW3 := Lib.hid (HW2.out.trans (b3.mono HW2.out.size))
     clear b3
     go_wp2_with fail
     with_reducible refine (CZ.out _).mono ?_
     rintro e w4 ⟨rfl, b4⟩
     have HI4 := Lib.hid ((b4.block w2.heap.size (cell_it HI3.out)).trans HI3.out)
     have HBd4 := Lib.hid (HBd3.out.keep b4)
     have HW4 := Lib.hid (HW3.out.trans (b4.mono HW3.out.size))
     clear b4
     have CW := writeString_any w1.heap.size w1.heap.size o ([92, 117] ++ (Z ++ X)) w4 HBd4.out (by simp only [List.length_append, List.length_cons, List.length_nil, HZl.out]; omega) HW4.out.size
     rw [cat3_ Z X] at CW
     have HCW := Lib.hid CW
     clear CW
     go_wp2_with fail
     with_reducible refine HCW.out.mono ?_
     rintro e w5 ⟨rfl, h5, b5, k5⟩
     have HI5 := Lib.hid (k5.iter HI4.out (by omega))
     have HBd5 := Lib.hid h5
     have HW5 := Lib.hid (HW4.out.trans b5)
     clear h5 b5 k5
     go_wp2_with fail
     go_roundw
     case rel => exact ⟨p + wd, o ++ ([92, 117] ++ (Z ++ X)), by omega, by rw [List.length_append]; omega, HQ2.out, HI5.out, HBd5.out, HW5.out⟩
     case measure => rw [iterPos_of HI5.out, HM.out]; omega
    ·rw [hL] at CL
     rw [hq] at HQ2
     have hge : decide ((32 : Int) ≤ r) = true := decide_eq_true h32
     clear hL hq
     go_wp2_with fail
     refine (CL.out _).mono ?_
     rintro e w' ⟨rfl, rfl⟩
     go_wp2_with fail
     refine (writeRune_any w1.heap.size w1.heap.size o r _ HBd2.out ⟨hr0, hr1⟩ (by omega) HW2.out.size).mono ?_
     rintro e w3 ⟨rfl, h3, b3, k3⟩
     have HI3 := Lib.hid (k3.iter HI2.out (by omega))
     have HBd3 := Lib.hid h3
     have HW3 := Lib.hid (HW2.out.trans b3)
     clear h3 b3 k3
     go_wp2_with fail
     go_roundw
     case rel => exact ⟨p + wd, o ++ encodeRune r, by omega, by rw [List.length_append]; omega, HQ2.out, HI3.out, HBd3.out, HW3.out⟩
     case measure => rw [iterPos_of HI3.out, HM.out]; omega
   ·have hnx : ∀ ty, (Instr.next (.pointer (some ⟨w2.heap.size, 0, none⟩)) true ty).run Tryz.prog wr = .ok (.tuple #[.bool false]) wr := fun ty => Lib.run_next_end_at wr _ (bs l) p ty HI.out (by omega)
    have HF : Hid (R = (o ++ [34], 0)) := by
     have h1 := HQ.out.1
     rw [show p = l.length by omega, List.take_length] at h1
     rw [← HR.out, h1]
     exact Lib.hid rfl
    go_wp2_with fail
    refine (writeByte_any w1.heap.size w1.heap.size o 34 _ HBd.out (by omega) HW.out.size).mono ?_
    rintro e w3 ⟨rfl, h3, b3, k3⟩
    have HBd3 := Lib.hid h3
    have HW3 := Lib.hid (HW.out.trans b3)
    clear h3 b3 k3
    go_wp2_with fail
    refine (Tryz.Builder_String_any_k w1.heap.size w1.heap.size (o ++ [34]) _ HBd3.out HW3.out.size).mono ?_
    rintro e w4 ⟨rfl, _, b4, _⟩
    go_wp2_with fail
    go_ret2
    exact ⟨by rw [HF.out]; rfl, below_of_new HB1.out (HW3.out.trans b4)⟩
end Go.Proofs.YtbldfpkfinpciaaGreatDoor
