import Derived.Test.YtbbjgdnbekoaeaaGreatDoorLexD
import Derived.Test.YtbbjgdnbekoaeaaGreatDoorLexR
import Derived.Test.YtbbjgdnbekoaeaaGreatDoorNumP
import Derived.Test.YtbbjgdnbekoaeaaGreatDoorQuoI
/-! The walk of scarfref04.one. Printed by gen_one.py. -/
namespace Go.Proofs.YtbbjgdnbekoaeaaGreatDoor
set_option linter.unusedSimpArgs false
set_option linter.unusedVariables false
open Go.RowKit
open Go.Lib hiding intOf

def oneK (u : List UInt8) : Int := if (tokR u).2.2 = 0 then (tokR u).1 else if u.head? = some 34 then 8 else 0
def OneE (u : List UInt8) (a : Nat) : Ending := .returned (.tuple #[.int .i64 (oneK u), .int .i64 ((a + (tokR u).2.1 : Nat) : Int), .int .i64 (tokR u).2.2])
theorem oneE_of {u : List UInt8} {a k n : Nat} {kd er : Int} (h : tokR u = (k, n, er)) (hk : er = 0 → kd = k) (hk2 : er ≠ 0 → kd = if u.head? = some 34 then 8 else 0) {p : Int} (hp : p = ((a + n : Nat) : Int)) : Ending.returned (.tuple #[.int .i64 kd, .int .i64 p, .int .i64 er]) = OneE u a := by
  unfold OneE oneK
  rw [h, hp]
  simp only []
  by_cases he : er = 0
  · rw [if_pos he, hk he]
  · rw [if_neg he, hk2 he]
theorem has_blanks (c : UInt8) : ([32, 9, 10, 13] : List UInt8).contains c = isBlank c := by
  have : ∀ n : Fin 256, ([32, 9, 10, 13] : List UInt8).contains (UInt8.ofNat n.val) = isBlank (UInt8.ofNat n.val) := by decide +kernel
  have := this ⟨c.toNat, c.toNat_lt⟩
  simpa only [UInt8.ofNat_toNat] using this
theorem has_dig (c : UInt8) : ([45, 48, 49, 50, 51, 52, 53, 54, 55, 56, 57] : List UInt8).contains c = (c == 45 || isDig c) := by
  have : ∀ n : Fin 256, ([45, 48, 49, 50, 51, 52, 53, 54, 55, 56, 57] : List UInt8).contains (UInt8.ofNat n.val) = ((UInt8.ofNat n.val) == 45 || isDig (UInt8.ofNat n.val)) := by decide +kernel
  have := this ⟨c.toNat, c.toNat_lt⟩
  simpa only [UInt8.ofNat_toNat] using this
theorem has_num (c : UInt8) : ([45, 43, 46, 48, 49, 50, 51, 52, 53, 54, 55, 56, 57, 101, 69] : List UInt8).contains c = isNumB c := by
  have : ∀ n : Fin 256, ([45, 43, 46, 48, 49, 50, 51, 52, 53, 54, 55, 56, 57, 101, 69] : List UInt8).contains (UInt8.ofNat n.val) = isNumB (UInt8.ofNat n.val) := by decide +kernel
  have := this ⟨c.toNat, c.toNat_lt⟩
  simpa only [UInt8.ofNat_toNat] using this
theorem has_small (c : UInt8) : ([97, 98, 99, 100, 101, 102, 103, 104, 105, 106, 107, 108, 109, 110, 111, 112, 113, 114, 115, 116, 117, 118, 119, 120, 121, 122] : List UInt8).contains c = isSmall c := by
  have : ∀ n : Fin 256, ([97, 98, 99, 100, 101, 102, 103, 104, 105, 106, 107, 108, 109, 110, 111, 112, 113, 114, 115, 116, 117, 118, 119, 120, 121, 122] : List UInt8).contains (UInt8.ofNat n.val) = isSmall (UInt8.ofNat n.val) := by decide +kernel
  have := this ⟨c.toNat, c.toNat_lt⟩
  simpa only [UInt8.ofNat_toNat] using this
theorem signI_at (c : UInt8) : (signI c = some 0 ∧ (c.toNat : Int) = 123) ∨ (signI c = some 1 ∧ (c.toNat : Int) = 125) ∨ (signI c = some 2 ∧ (c.toNat : Int) = 91) ∨ (signI c = some 3 ∧ (c.toNat : Int) = 93) ∨ (signI c = some 4 ∧ (c.toNat : Int) = 44) ∨ (signI c = some 5 ∧ (c.toNat : Int) = 58) ∨
    (signI c = none ∧ (c.toNat : Int) ≠ 123 ∧ (c.toNat : Int) ≠ 125 ∧ (c.toNat : Int) ≠ 91 ∧ (c.toNat : Int) ≠ 93 ∧ (c.toNat : Int) ≠ 44 ∧ (c.toNat : Int) ≠ 58) := by
  unfold signI
  have hn : ∀ d : UInt8, c ≠ d → (c.toNat : Int) ≠ (d.toNat : Int) := fun d h e => h (UInt8.toNat_inj.1 (by omega))
  by_cases h0 : c = 123
  · left; subst h0; exact ⟨rfl, rfl⟩
  by_cases h1 : c = 125
  · right; left; subst h1; exact ⟨rfl, rfl⟩
  by_cases h2 : c = 91
  · right; right; left; subst h2; exact ⟨rfl, rfl⟩
  by_cases h3 : c = 93
  · right; right; right; left; subst h3; exact ⟨rfl, rfl⟩
  by_cases h4 : c = 44
  · right; right; right; right; left; subst h4; exact ⟨rfl, rfl⟩
  by_cases h5 : c = 58
  · right; right; right; right; right; left; subst h5; exact ⟨rfl, rfl⟩
  · right; right; right; right; right; right
    rw [if_neg h0, if_neg h1, if_neg h2, if_neg h3, if_neg h4, if_neg h5]
    exact ⟨rfl, hn 123 h0, hn 125 h1, hn 91 h2, hn 93 h3, hn 44 h4, hn 58 h5⟩
set_option maxRecDepth 100000 in
set_option maxHeartbeats 8000000 in
theorem refOne_any (l : List UInt8) (a : Nat) (w : World) (hs : l.length ≤ 1048576) (ha : a < l.length) :
    Calls Tryz.prog 24 #[.string (bs l), .int .i64 a] w fun e w' => e = OneE (l.drop a) a ∧ Below w.heap.size w w' := by
  have sl := bs_size l
  have hEnd := endL_at l a ha
  have CE0 := fun w => refEnd_any l a w (by omega)
  obtain ⟨EE, hEE⟩ : ∃ EE, endL l a = EE := ⟨_, rfl⟩
  rw [hEE] at CE0 hEnd
  obtain ⟨ek, ee⟩ := EE
  simp only [] at CE0 hEnd
  have CE := Lib.hid CE0
  clear CE0
  have hsl : ∀ n, (bs l).extract a (a + n) = bs ((l.drop a).take n) := fun n => by rw [bs_extract, bs_data, Nat.add_sub_cancel_left]
  have R1 := Lib.hid (fun w => refRun_any l a [32, 9, 10, 13] isBlank has_blanks w (by omega) (by omega) (by decide))
  have R2 := Lib.hid (fun w => refRun_any l a [45, 43, 46, 48, 49, 50, 51, 52, 53, 54, 55, 56, 57, 101, 69] isNumB has_num w (by omega) (by omega) (by decide))
  have R3 := Lib.hid (fun w => refRun_any l a [97, 98, 99, 100, 101, 102, 103, 104, 105, 106, 107, 108, 109, 110, 111, 112, 113, 114, 115, 116, 117, 118, 119, 120, 121, 122] isSmall has_small w (by omega) (by omega) (by decide))
  have ha' : a < (bs l).size := by omega
  have hge := at_bs l a ha'
  obtain ⟨u, hu⟩ : ∃ u, l.drop a = u := ⟨_, rfl⟩
  have hul : u.length = l.length - a := by rw [← hu, List.length_drop]
  obtain ⟨c, hc⟩ : ∃ c, u.head? = some c := by cases u with | nil => simp at hul; omega | cons c r => exact ⟨c, rfl⟩
  have hc0 : (((bs l)[a]'ha').toNat : Int) = (c.toNat : Int) := by
    have h2 : l[a]? = some c := by rw [← hc, ← hu, List.head?_eq_getElem?, List.getElem?_drop, Nat.add_zero]
    rw [h2] at hge
    rw [← Option.some.inj hge]
  rw [hu] at hEnd R1 R2 R3 ⊢
  simp only [hu] at hsl
  have hrf := readL_fail u
  have hrb := runL_le isBlank u
  have hrn := runL_le isNumB u
  have hrs := runL_le isSmall u
  have HT := Lib.hid (tokR_head hc)
  have A1 := Lib.hid (fun w => refAmong_any c [32, 9, 10, 13] w (by decide))
  have A2 := Lib.hid (fun w => refAmong_any c [45, 48, 49, 50, 51, 52, 53, 54, 55, 56, 57] w (by decide))
  rw [has_blanks] at A1
  rw [has_dig] at A2
  have hsg := signI_at c
  have h34i : c = 34 ↔ (c.toNat : Int) = 34 := ⟨fun h => by rw [h]; rfl, fun h => UInt8.toNat_inj.1 (by show c.toNat = 34; omega)⟩
  obtain ⟨PR, hPR⟩ : ∃ x, parseL (u.take (runL isNumB u)) = x := ⟨_, rfl⟩
  have CP := Lib.hid (fun w => refParse_any (u.take (runL isNumB u)) w (by rw [List.length_take]; omega))
  rw [hPR] at CP
  have e1 := hsl (runL isNumB u)
  have e2 := hsl (runL isSmall u)
  obtain ⟨nb, hnb⟩ : ∃ x, runL isBlank u = x := ⟨_, rfl⟩
  obtain ⟨nn, hnn⟩ : ∃ x, runL isNumB u = x := ⟨_, rfl⟩
  obtain ⟨ns, hns⟩ : ∃ x, runL isSmall u = x := ⟨_, rfl⟩
  rw [hnb] at R1 hrb
  rw [hnn] at R2 hrn CP e1 hPR
  rw [hns] at R3 hrs e2
  have HX := Lib.hid (And.intro hPR (And.intro hnb (And.intro hnn (And.intro hns (And.intro hEnd hrf)))))
  obtain ⟨n, hn⟩ : ∃ n : Int, (c.toNat : Int) = n := ⟨_, rfl⟩
  rw [show bs [32, 9, 10, 13] = (⟨#[32, 9, 10, 13]⟩ : ByteArray) from rfl] at A1 R1
  rw [show bs [45, 48, 49, 50, 51, 52, 53, 54, 55, 56, 57] = (⟨#[45, 48, 49, 50, 51, 52, 53, 54, 55, 56, 57]⟩ : ByteArray) from rfl] at A2
  rw [show bs [45, 43, 46, 48, 49, 50, 51, 52, 53, 54, 55, 56, 57, 101, 69] = (⟨#[45, 43, 46, 48, 49, 50, 51, 52, 53, 54, 55, 56, 57, 101, 69]⟩ : ByteArray) from rfl] at R2
  rw [show bs [97, 98, 99, 100, 101, 102, 103, 104, 105, 106, 107, 108, 109, 110, 111, 112, 113, 114, 115, 116, 117, 118, 119, 120, 121, 122] = (⟨#[97, 98, 99, 100, 101, 102, 103, 104, 105, 106, 107, 108, 109, 110, 111, 112, 113, 114, 115, 116, 117, 118, 119, 120, 121, 122]⟩ : ByteArray) from rfl] at R3
  rw [hn] at A1 A2 hsg h34i hc0
  have hn34 : u.head? = some 34 ↔ n = 34 := by rw [hc]; exact ⟨fun h => h34i.1 (Option.some.inj h), fun h => by rw [h34i.2 h]⟩
  have H34 := Lib.hid (And.intro h34i hn34)
  have hal : (a : Int) + 1 ≤ (l.length : Int) := by omega
  clear hge hu hc hPR hnb hnn hns hEnd hrf hn h34i hn34 hEE hsl
  rcases hsg with ⟨hg, rfl⟩ | ⟨hg, rfl⟩ | ⟨hg, rfl⟩ | ⟨hg, rfl⟩ | ⟨hg, rfl⟩ | ⟨hg, rfl⟩ | ⟨hg, q0, q1, q2, q3, q4, q5⟩
  · have HF : Hid (tokR u = (2, 1, 0)) := Lib.hid (by rw [HT.out, hg])
    clear hg HT HX H34 CE CP R1 R2 R3 A1 A2
    go_enter Tryz.func24, Tryz.ntmps24
    go_wp2_with fail
    refine wp_loop_rounds 1 ?_
    rw [rounds_succ]
    go_wp2_with fail
    go_ret3
    exact ⟨oneE_of HF.out (fun _ => rfl) (fun h => absurd rfl h) (by omega), Below.refl _ _⟩
  · have HF : Hid (tokR u = (3, 1, 0)) := Lib.hid (by rw [HT.out, hg])
    clear hg HT HX H34 CE CP R1 R2 R3 A1 A2
    go_enter Tryz.func24, Tryz.ntmps24
    go_wp2_with fail
    refine wp_loop_rounds 2 ?_
    rw [rounds_succ]
    go_wp2_with fail
    rw [rounds_succ]
    go_wp2_with fail
    go_ret3
    exact ⟨oneE_of HF.out (fun _ => rfl) (fun h => absurd rfl h) (by omega), Below.refl _ _⟩
  · have HF : Hid (tokR u = (4, 1, 0)) := Lib.hid (by rw [HT.out, hg])
    clear hg HT HX H34 CE CP R1 R2 R3 A1 A2
    go_enter Tryz.func24, Tryz.ntmps24
    go_wp2_with fail
    refine wp_loop_rounds 3 ?_
    rw [rounds_succ]
    go_wp2_with fail
    rw [rounds_succ]
    go_wp2_with fail
    rw [rounds_succ]
    go_wp2_with fail
    go_ret3
    exact ⟨oneE_of HF.out (fun _ => rfl) (fun h => absurd rfl h) (by omega), Below.refl _ _⟩
  · have HF : Hid (tokR u = (5, 1, 0)) := Lib.hid (by rw [HT.out, hg])
    clear hg HT HX H34 CE CP R1 R2 R3 A1 A2
    go_enter Tryz.func24, Tryz.ntmps24
    go_wp2_with fail
    refine wp_loop_rounds 4 ?_
    rw [rounds_succ]
    go_wp2_with fail
    rw [rounds_succ]
    go_wp2_with fail
    rw [rounds_succ]
    go_wp2_with fail
    rw [rounds_succ]
    go_wp2_with fail
    go_ret3
    exact ⟨oneE_of HF.out (fun _ => rfl) (fun h => absurd rfl h) (by omega), Below.refl _ _⟩
  · have HF : Hid (tokR u = (6, 1, 0)) := Lib.hid (by rw [HT.out, hg])
    clear hg HT HX H34 CE CP R1 R2 R3 A1 A2
    go_enter Tryz.func24, Tryz.ntmps24
    go_wp2_with fail
    refine wp_loop_rounds 5 ?_
    rw [rounds_succ]
    go_wp2_with fail
    rw [rounds_succ]
    go_wp2_with fail
    rw [rounds_succ]
    go_wp2_with fail
    rw [rounds_succ]
    go_wp2_with fail
    rw [rounds_succ]
    go_wp2_with fail
    go_ret3
    exact ⟨oneE_of HF.out (fun _ => rfl) (fun h => absurd rfl h) (by omega), Below.refl _ _⟩
  · have HF : Hid (tokR u = (7, 1, 0)) := Lib.hid (by rw [HT.out, hg])
    clear hg HT HX H34 CE CP R1 R2 R3 A1 A2
    go_enter Tryz.func24, Tryz.ntmps24
    go_wp2_with fail
    refine wp_loop_rounds 6 ?_
    rw [rounds_succ]
    go_wp2_with fail
    rw [rounds_succ]
    go_wp2_with fail
    rw [rounds_succ]
    go_wp2_with fail
    rw [rounds_succ]
    go_wp2_with fail
    rw [rounds_succ]
    go_wp2_with fail
    rw [rounds_succ]
    go_wp2_with fail
    go_ret3
    exact ⟨oneE_of HF.out (fun _ => rfl) (fun h => absurd rfl h) (by omega), Below.refl _ _⟩
  · have HT2 := HT.out
    rw [hg] at HT2
    have HT := Lib.hid HT2
    clear hg HT2
    cases hbl : isBlank c with
    | true =>
      have HF : Hid (tokR u = (1, nb, 0)) := Lib.hid (by have h := HT.out; simp only [hbl, if_true] at h; rw [h, HX.out.2.1])
      rw [hbl] at A1
      clear hbl HT HX H34 CE CP R2 R3 A2
      go_enter Tryz.func24, Tryz.ntmps24
      go_wp2_with fail
      refine wp_loop_rounds 7 ?_
      rw [rounds_succ]
      go_wp2_with fail
      · next h => exact (q0 (eq_of_beq h)).elim
      rw [rounds_succ]
      go_wp2_with fail
      · next h => exact (q1 (eq_of_beq h)).elim
      rw [rounds_succ]
      go_wp2_with fail
      · next h => exact (q2 (eq_of_beq h)).elim
      rw [rounds_succ]
      go_wp2_with fail
      · next h => exact (q3 (eq_of_beq h)).elim
      rw [rounds_succ]
      go_wp2_with fail
      · next h => exact (q4 (eq_of_beq h)).elim
      rw [rounds_succ]
      go_wp2_with fail
      · next h => exact (q5 (eq_of_beq h)).elim
      rw [rounds_succ]
      go_wp2_with (first | (go_at_call 44; (with_reducible refine (A1.out _).mono ?_); rintro e w' ⟨rfl, rfl⟩) | (go_at_call 45; (with_reducible refine (R1.out _).mono ?_); rintro e w' ⟨rfl, rfl⟩))
      go_ret3
      exact ⟨oneE_of HF.out (fun _ => rfl) (fun h => absurd rfl h) (by omega), Below.refl _ _⟩
    | false =>
      have HT2 := HT.out
      rw [hbl] at HT2
      simp only [if_false, Bool.false_eq_true] at HT2
      have HT := Lib.hid HT2
      clear HT2
      rw [hbl] at A1
      clear hbl
      by_cases h34 : n = 34
      · have HF : Hid (Ending.returned (.tuple #[.int .i64 8, .int .i64 ek, .int .i64 ee]) = OneE u a) := Lib.hid (by
          have h := HT.out
          rw [if_pos (H34.out.1.2 h34)] at h
          obtain ⟨e1, e2⟩ := Prod.mk.inj HX.out.2.2.2.2.1
          have h0 := HX.out.2.2.2.2.2
          rw [e2]
          by_cases hz : (readL u 0).2.2 = 0
          · rw [if_pos hz] at h
            rw [hz]
            exact oneE_of h (fun _ => rfl) (fun hh => absurd rfl hh) (by omega)
          · rw [if_neg hz] at h
            exact oneE_of h (fun hh => absurd hh hz) (fun _ => by rw [if_pos (H34.out.2.2 h34)]) (by omega))
        subst h34
        clear HT HX H34 CP R1 R2 R3 A2
        go_enter Tryz.func24, Tryz.ntmps24
        go_wp2_with fail
        refine wp_loop_rounds 7 ?_
        rw [rounds_succ]
        go_wp2_with fail
        rw [rounds_succ]
        go_wp2_with fail
        rw [rounds_succ]
        go_wp2_with fail
        rw [rounds_succ]
        go_wp2_with fail
        rw [rounds_succ]
        go_wp2_with fail
        rw [rounds_succ]
        go_wp2_with fail
        rw [rounds_succ]
        go_wp2_with (first | (go_at_call 44; (with_reducible refine (A1.out _).mono ?_); rintro e w' ⟨rfl, rfl⟩) | (go_at_call 46; (with_reducible refine (CE.out _).mono ?_); rintro e w' ⟨rfl, hb⟩))
        go_ret3
        exact ⟨HF.out, by assumption⟩
      have hc34 : c ≠ 34 := fun h => h34 (H34.out.1.1 h)
      have q34 : (n == 34) = false := beq_eq_false_iff_ne.2 h34
      have HN := Lib.hid (show ¬ u.head? = some 34 from fun h => h34 (H34.out.2.1 h))
      have HT2 := HT.out
      rw [if_neg hc34] at HT2
      have HT := Lib.hid HT2
      clear HT2 hc34 H34 CE h34
      cases hd : (c == 45 || isDig c) with
      | true =>
        rw [hd] at A2
        have hcd : c = 45 ∨ isDig c = true := by simpa using hd
        have HT2 := HT.out
        rw [if_pos hcd, HX.out.2.2.1, HX.out.1] at HT2
        obtain ⟨N, pe⟩ := PR
        simp only [Parsed, numV] at CP
        simp only [] at HT2
        have HT := Lib.hid HT2
        clear HX HT2 hd hcd R1 R3
        have hln : a + nn ≤ l.length := by omega
        have hlz : (a : Int) + (nn : Int) ≤ (l.length : Int) := by omega
        by_cases hz : pe = 0
        · have HF : Hid (tokR u = (9, nn, 0)) := Lib.hid (by have h := HT.out; rw [if_pos hz] at h; exact h)
          subst hz
          clear HT
          go_enter Tryz.func24, Tryz.ntmps24
          go_wp2_with fail
          refine wp_loop_rounds 7 ?_
          rw [rounds_succ]
          go_wp2_with fail
          · next h => exact (q0 (eq_of_beq h)).elim
          rw [rounds_succ]
          go_wp2_with fail
          · next h => exact (q1 (eq_of_beq h)).elim
          rw [rounds_succ]
          go_wp2_with fail
          · next h => exact (q2 (eq_of_beq h)).elim
          rw [rounds_succ]
          go_wp2_with fail
          · next h => exact (q3 (eq_of_beq h)).elim
          rw [rounds_succ]
          go_wp2_with fail
          · next h => exact (q4 (eq_of_beq h)).elim
          rw [rounds_succ]
          go_wp2_with fail
          · next h => exact (q5 (eq_of_beq h)).elim
          rw [rounds_succ]
          go_wp2_with (first | (go_at_call 44; (first | (with_reducible refine (A1.out _).mono ?_) | (with_reducible refine (A2.out _).mono ?_)); rintro e w' ⟨rfl, rfl⟩) | (go_at_call 45; (with_reducible refine (R2.out _).mono ?_); rintro e w' ⟨rfl, rfl⟩) | (go_at_call 47; (rw [e1]); (with_reducible refine (CP.out _).mono ?_); rintro e w' ⟨rfl, hb⟩))
          go_ret3
          exact ⟨oneE_of HF.out (fun _ => rfl) (fun h => absurd rfl h) (by omega), below_of_new (by assumption) (below_alloc1 _ _)⟩
        · have HF : Hid (tokR u = (0, 0, pe)) := Lib.hid (by have h := HT.out; rw [if_neg hz] at h; exact h)
          have hzb : (pe == 0) = false := beq_eq_false_iff_ne.2 hz
          have HZ := Lib.hid hz
          clear hz
          clear HT
          go_enter Tryz.func24, Tryz.ntmps24
          go_wp2_with fail
          refine wp_loop_rounds 7 ?_
          rw [rounds_succ]
          go_wp2_with fail
          · next h => exact (q0 (eq_of_beq h)).elim
          rw [rounds_succ]
          go_wp2_with fail
          · next h => exact (q1 (eq_of_beq h)).elim
          rw [rounds_succ]
          go_wp2_with fail
          · next h => exact (q2 (eq_of_beq h)).elim
          rw [rounds_succ]
          go_wp2_with fail
          · next h => exact (q3 (eq_of_beq h)).elim
          rw [rounds_succ]
          go_wp2_with fail
          · next h => exact (q4 (eq_of_beq h)).elim
          rw [rounds_succ]
          go_wp2_with fail
          · next h => exact (q5 (eq_of_beq h)).elim
          rw [rounds_succ]
          go_wp2_with (first | (go_at_call 44; (first | (with_reducible refine (A1.out _).mono ?_) | (with_reducible refine (A2.out _).mono ?_)); rintro e w' ⟨rfl, rfl⟩) | (go_at_call 45; (with_reducible refine (R2.out _).mono ?_); rintro e w' ⟨rfl, rfl⟩) | (go_at_call 47; (rw [e1]); (with_reducible refine (CP.out _).mono ?_); rintro e w' ⟨rfl, hb⟩))
          go_ret3
          exact ⟨oneE_of HF.out (fun hh => absurd hh HZ.out) (fun _ => by rw [if_neg HN.out]) (by omega), below_of_new (by assumption) (below_alloc1 _ _)⟩
      | false =>
        rw [hd] at A2
        have hcd : ¬ (c = 45 ∨ isDig c = true) := by simpa using hd
        have HT2 := HT.out
        rw [if_neg hcd, HX.out.2.2.2.1] at HT2
        have HT := Lib.hid HT2
        clear HX HT2 hd hcd R1 R2 CP e1
        have hln : a + ns ≤ l.length := by omega
        have hlz : (a : Int) + (ns : Int) ≤ (l.length : Int) := by omega
        obtain ⟨U, hU⟩ : ∃ U, u.take ns = U := ⟨_, rfl⟩
        rw [hU] at e2
        have HT2 := HT.out
        rw [hU] at HT2
        have HT := Lib.hid HT2
        clear HT2 hU
        have hx : (bs U).toList = U := by rw [Lib.toList_data, bs_data]
        have t1 : ((bs U).toList == [116, 114, 117, 101]) = (U == [116, 114, 117, 101]) := by rw [hx]
        have t2 : ((bs U).toList == [102, 97, 108, 115, 101]) = (U == [102, 97, 108, 115, 101]) := by rw [hx]
        have t3 : ((bs U).toList == [110, 117, 108, 108]) = (U == [110, 117, 108, 108]) := by rw [hx]
        clear hx
        have HT2 := HT.out
        unfold wordL at HT2
        clear HT
        by_cases u1 : U = [116, 114, 117, 101]
        · rw [if_pos u1] at HT2
          have HF : Hid (tokR u = (10, ns, 0)) := Lib.hid (by rw [HT2]; rfl)
          rw [show (U == [116, 114, 117, 101]) = true from beq_iff_eq.2 u1] at t1
          clear u1 HT2
          go_enter Tryz.func24, Tryz.ntmps24
          go_wp2_with fail
          refine wp_loop_rounds 7 ?_
          rw [rounds_succ]
          go_wp2_with fail
          · next h => exact (q0 (eq_of_beq h)).elim
          rw [rounds_succ]
          go_wp2_with fail
          · next h => exact (q1 (eq_of_beq h)).elim
          rw [rounds_succ]
          go_wp2_with fail
          · next h => exact (q2 (eq_of_beq h)).elim
          rw [rounds_succ]
          go_wp2_with fail
          · next h => exact (q3 (eq_of_beq h)).elim
          rw [rounds_succ]
          go_wp2_with fail
          · next h => exact (q4 (eq_of_beq h)).elim
          rw [rounds_succ]
          go_wp2_with fail
          · next h => exact (q5 (eq_of_beq h)).elim
          rw [rounds_succ]
          go_wp2_with (first | (go_at_call 44; (first | (with_reducible refine (A1.out _).mono ?_) | (with_reducible refine (A2.out _).mono ?_)); rintro e w' ⟨rfl, rfl⟩) | (go_at_call 45; (with_reducible refine (R3.out _).mono ?_); rintro e w' ⟨rfl, rfl⟩))
          go_ret3
          exact ⟨oneE_of HF.out (fun _ => rfl) (fun h => absurd rfl h) (by omega), Below.refl _ _⟩
        rw [if_neg u1] at HT2
        rw [show (U == [116, 114, 117, 101]) = false from beq_eq_false_iff_ne.2 u1] at t1
        clear u1
        by_cases u2 : U = [102, 97, 108, 115, 101]
        · rw [if_pos u2] at HT2
          have HF : Hid (tokR u = (11, ns, 0)) := Lib.hid (by rw [HT2]; rfl)
          rw [show (U == [102, 97, 108, 115, 101]) = true from beq_iff_eq.2 u2] at t2
          clear u2 HT2
          go_enter Tryz.func24, Tryz.ntmps24
          go_wp2_with fail
          refine wp_loop_rounds 7 ?_
          rw [rounds_succ]
          go_wp2_with fail
          · next h => exact (q0 (eq_of_beq h)).elim
          rw [rounds_succ]
          go_wp2_with fail
          · next h => exact (q1 (eq_of_beq h)).elim
          rw [rounds_succ]
          go_wp2_with fail
          · next h => exact (q2 (eq_of_beq h)).elim
          rw [rounds_succ]
          go_wp2_with fail
          · next h => exact (q3 (eq_of_beq h)).elim
          rw [rounds_succ]
          go_wp2_with fail
          · next h => exact (q4 (eq_of_beq h)).elim
          rw [rounds_succ]
          go_wp2_with fail
          · next h => exact (q5 (eq_of_beq h)).elim
          rw [rounds_succ]
          go_wp2_with (first | (go_at_call 44; (first | (with_reducible refine (A1.out _).mono ?_) | (with_reducible refine (A2.out _).mono ?_)); rintro e w' ⟨rfl, rfl⟩) | (go_at_call 45; (with_reducible refine (R3.out _).mono ?_); rintro e w' ⟨rfl, rfl⟩))
          go_ret3
          exact ⟨oneE_of HF.out (fun _ => rfl) (fun h => absurd rfl h) (by omega), Below.refl _ _⟩
        rw [if_neg u2] at HT2
        rw [show (U == [102, 97, 108, 115, 101]) = false from beq_eq_false_iff_ne.2 u2] at t2
        clear u2
        by_cases u3 : U = [110, 117, 108, 108]
        · rw [if_pos u3] at HT2
          have HF : Hid (tokR u = (12, ns, 0)) := Lib.hid (by rw [HT2]; rfl)
          rw [show (U == [110, 117, 108, 108]) = true from beq_iff_eq.2 u3] at t3
          clear u3 HT2
          go_enter Tryz.func24, Tryz.ntmps24
          go_wp2_with fail
          refine wp_loop_rounds 7 ?_
          rw [rounds_succ]
          go_wp2_with fail
          · next h => exact (q0 (eq_of_beq h)).elim
          rw [rounds_succ]
          go_wp2_with fail
          · next h => exact (q1 (eq_of_beq h)).elim
          rw [rounds_succ]
          go_wp2_with fail
          · next h => exact (q2 (eq_of_beq h)).elim
          rw [rounds_succ]
          go_wp2_with fail
          · next h => exact (q3 (eq_of_beq h)).elim
          rw [rounds_succ]
          go_wp2_with fail
          · next h => exact (q4 (eq_of_beq h)).elim
          rw [rounds_succ]
          go_wp2_with fail
          · next h => exact (q5 (eq_of_beq h)).elim
          rw [rounds_succ]
          go_wp2_with (first | (go_at_call 44; (first | (with_reducible refine (A1.out _).mono ?_) | (with_reducible refine (A2.out _).mono ?_)); rintro e w' ⟨rfl, rfl⟩) | (go_at_call 45; (with_reducible refine (R3.out _).mono ?_); rintro e w' ⟨rfl, rfl⟩))
          go_ret3
          exact ⟨oneE_of HF.out (fun _ => rfl) (fun h => absurd rfl h) (by omega), Below.refl _ _⟩
        rw [if_neg u3] at HT2
        rw [show (U == [110, 117, 108, 108]) = false from beq_eq_false_iff_ne.2 u3] at t3
        clear u3
        have HF : Hid (tokR u = (0, 0, 2)) := Lib.hid (by rw [HT2]; rfl)
        clear HT2
        go_enter Tryz.func24, Tryz.ntmps24
        go_wp2_with fail
        refine wp_loop_rounds 7 ?_
        rw [rounds_succ]
        go_wp2_with fail
        · next h => exact (q0 (eq_of_beq h)).elim
        rw [rounds_succ]
        go_wp2_with fail
        · next h => exact (q1 (eq_of_beq h)).elim
        rw [rounds_succ]
        go_wp2_with fail
        · next h => exact (q2 (eq_of_beq h)).elim
        rw [rounds_succ]
        go_wp2_with fail
        · next h => exact (q3 (eq_of_beq h)).elim
        rw [rounds_succ]
        go_wp2_with fail
        · next h => exact (q4 (eq_of_beq h)).elim
        rw [rounds_succ]
        go_wp2_with fail
        · next h => exact (q5 (eq_of_beq h)).elim
        rw [rounds_succ]
        go_wp2_with (first | (go_at_call 44; (first | (with_reducible refine (A1.out _).mono ?_) | (with_reducible refine (A2.out _).mono ?_)); rintro e w' ⟨rfl, rfl⟩) | (go_at_call 45; (with_reducible refine (R3.out _).mono ?_); rintro e w' ⟨rfl, rfl⟩))
        go_ret3
        exact ⟨oneE_of HF.out (fun h => absurd h (by decide)) (fun _ => by rw [if_neg HN.out]) (by omega), Below.refl _ _⟩
end Go.Proofs.YtbbjgdnbekoaeaaGreatDoor
