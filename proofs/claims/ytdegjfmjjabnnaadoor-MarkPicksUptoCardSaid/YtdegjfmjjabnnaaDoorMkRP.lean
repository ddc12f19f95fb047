import Derived.Test.YtdegjfmjjabnnaaDoorMkDc
/-! The walk of scarfref25.Pick. -/
namespace Go.Proofs.YtdegjfmjjabnnaaDoor
set_option linter.unusedSimpArgs false
set_option linter.unusedVariables false
open Go.RowKit
open Go.Lib hiding intOf

theorem pg_len : ∀ (l : List Part) (ps : List Int) (s : List UInt8), pickGo l ps = some s → hunksM l = ps.length
  | [], [], s, _ => rfl
  | [], _ :: _, s, h => by rw [pickGo] at h; cases h
  | y :: l, ps, s, h => by
    rw [hunksM_cons]
    cases hy : y.hunk with
    | false =>
      rw [pg_text l ps hy] at h
      cases ho : pickGo l ps with
      | none => rw [ho] at h; cases h
      | some t => rw [pg_len l ps t ho]; rfl
    | true =>
      cases ps with
      | nil => rw [pg_short l hy] at h; cases h
      | cons k r =>
        rw [pg_hunk l k r hy] at h
        cases ho : pickGo l r with
        | none => rw [ho] at h; simp at h
        | some t => rw [pg_len l r t ho, List.length_cons]; rfl
theorem PkR.pickAt {R : Option (List UInt8)} {acc : List UInt8} {x : Part} {l : List Part} {r : List Int} {k : Int} {q : List Int} (h : PkR R acc (x :: l) r) (e : r = k :: q) : PkR R acc (x :: l) (k :: q) := e ▸ h
set_option maxRecDepth 100000 in
set_option maxHeartbeats 8000000 in
theorem rPick_any (v pv : Value) (l : List Part) (ps : List Int) (w : World) (hv : PV w v l) (hpv : IV w pv ps) (hl : l.length ≤ 1073741825) (hpl : ps.length ≤ 1073741825) (htot : totP l ≤ 1099511627776) :
    Calls Tryd.prog 13 #[v, pv] w fun e w' => e = .returned (.tuple #[.string (bs (pickM l ps).1), .int .i64 (pickM l ps).2]) ∧ Below w.heap.size w w' := by
  have CR := Lib.hid (fun w hv => rRight_any v l w hv hl)
  have CH := Lib.hid (fun w hv => rHunks_any v l w hv hl)
  have HV : Hid (PV w v l) := Lib.hid hv
  have HIV := Lib.hid hpv
  obtain ⟨p, c, rfl, hp⟩ := hv
  have HP : Hid (PLies w p l) := Lib.hid hp
  obtain ⟨ip, ic, rfl, hic, _⟩ := hpv
  obtain ⟨E, hE⟩ : ∃ E, pickM l ps = E := ⟨_, rfl⟩
  rw [hE]
  unfold pickM at hE
  clear hp
  obtain ⟨Rt, hRt⟩ : ∃ R, rightM l = R := ⟨_, rfl⟩
  rw [hRt] at hE CR
  have hgl := pg_len l ps
  have hHl := hunksM_le l
  obtain ⟨H, hH⟩ : ∃ H, hunksM l = H := ⟨_, rfl⟩
  rw [hH] at CH hgl hHl
  obtain ⟨R, hR⟩ : ∃ R, pickGo l ps = R := ⟨_, rfl⟩
  rw [hR] at hE hgl
  have HEf : Hid (Rt = false → E = ([], 1)) := Lib.hid (fun h => by rw [← hE, h]; rfl)
  have HEn : Hid (R = none → E = ([], 1)) := Lib.hid (fun h => by rw [← hE, h]; split <;> rfl)
  have HEs : Hid (Rt = true → ∀ a, R = some a → E = (a, 0)) := Lib.hid (fun h1 a h => by rw [← hE, h, if_pos h1])
  have HR0 : Hid (PkR R [] (l.drop 0) (ps.drop 0)) := Lib.hid (by rw [← hR, List.drop_zero, List.drop_zero]; exact PkR.start l ps)
  have HT0 : Hid (([] : List UInt8).length + totP (l.drop 0) ≤ 1099511627776) := Lib.hid (by rw [List.drop_zero]; exact (Nat.zero_add (totP l)).symm ▸ htot)
  have HGL : Hid (H ≠ ps.length → R = none) := Lib.hid (fun h => by
    cases R with
    | none => rfl
    | some s => exact absurd (hgl s rfl) h)
  have HH := Lib.hid hH
  clear hE hR hRt hH hgl htot
  go_enter Tryd.func13, Tryd.ntmps13
  go_upto_region 2 with (go_at_call 15; (with_reducible refine (CR.out _ HV.out).mono ?_); rintro e w1 ⟨rfl, hb⟩; have HB1 := Lib.hid hb; clear hb)
  cases Rt with
  | false =>
    have HF : Hid (E = ([], 1)) := Lib.hid (HEf.out rfl)
    go_wp2_with fail
    go_ret2
    exact ⟨by rw [HF.out]; rfl, HB1.out⟩
  | true =>
    by_cases hne : H = ps.length
    case neg =>
      have HF : Hid (E = ([], 1)) := Lib.hid (HEn.out (HGL.out hne))
      have hnz : ((H : Int) != (ps.length : Int)) = true := bne_iff_ne.2 (by omega)
      clear hne
      go_wp2_with (go_at_call 27; (with_reducible refine (CH.out _ (HV.out.keep HB1.out)).mono ?_); rintro e w2 ⟨rfl, hb⟩; have HB2 := Lib.hid (below_of_new HB1.out hb); clear hb)
      go_ret2
      exact ⟨by rw [HF.out]; rfl, HB2.out⟩
    have hnz : ((H : Int) != (ps.length : Int)) = false := by rw [hne]; simp
    have HES : Hid (∀ a, R = some a → E = (a, 0)) := Lib.hid (HEs.out rfl)
    have HK0 : Hid (0 + hunksM (l.drop 0) = ps.length) := Lib.hid (by rw [List.drop_zero, Nat.zero_add, HH.out, hne])
    clear hne HEs HEf HGL
    go_upto_if 20 with (go_at_call 27; (with_reducible refine (CH.out _ (HV.out.keep HB1.out)).mono ?_); rintro e w2 ⟨rfl, hb⟩; have HB2 := Lib.hid (below_of_new HB1.out hb); clear hb)
    go_wp2_with fail
    go_loopw [7, 8, 9] (fun s7 s8 s9 wr => ∃ (j k : Nat) (acc : List UInt8), s9 = .int .i64 j ∧ s8 = .int .i64 k ∧ s7 = .string (bs acc) ∧ j ≤ l.length ∧ k ≤ ps.length ∧ Hid (k + hunksM (l.drop j) = ps.length) ∧ Hid (acc.length + totP (l.drop j) ≤ 1099511627776) ∧ Hid (PkR R acc (l.drop j) (ps.drop k)) ∧ Hid (Below w.heap.size w wr)) (fun _ _ s9 _ => l.length - (RowKit.intOf s9).toNat)
    case atStart => exact ⟨0, 0, [], rfl, rfl, rfl, by omega, by omega, HK0.out, HT0.out, HR0.out, HB2.out⟩
    case round =>
      obtain ⟨j, k, acc, rfl, rfl, rfl, hj, hk, HK, HT, HR, HB⟩ := hrel
      by_cases hlt : j < l.length
      · obtain ⟨x, hx⟩ : ∃ x, l[j]? = some x := ⟨_, List.getElem?_eq_getElem hlt⟩
        obtain ⟨g, o, rfl, hg, _, c0, c1, c2, c3, c4⟩ := (HP.out.keep HB.out).at_ hx
        have hlz : (j : Int) < (l.length : Int) := by omega
        have htt := HT.out
        rw [drop_at hx, totP_cons] at htt
        have hrr := HR.out
        rw [drop_at hx] at hrr
        have hkk := HK.out
        rw [drop_at hx, hunksM_cons] at hkk
        have sA := bs_size acc
        have st := bs_size x.text; have s0 := bs_size x.s0; have s1 := bs_size x.s1; have s2 := bs_size x.s2
        obtain ⟨b, hb⟩ : ∃ b, x.hunk = b := ⟨_, rfl⟩
        rw [hb] at c0 hkk
        cases b with
        | false =>
          have HRN := Lib.hid (hrr.text hb)
          have HT2 : Hid ((acc ++ x.text).length + totP (l.drop (j + 1)) ≤ 1099511627776) := Lib.hid (by rw [List.length_append]; omega)
          have HK2 : Hid (k + hunksM (l.drop (j + 1)) = ps.length) := Lib.hid (by simpa using hkk)
          have hn1 : acc.length + x.text.length ≤ 1099511627776 := by omega
          have hn2 : ¬ 9223372036854775807 < acc.length + x.text.length := by omega
          clear htt hrr hkk hb hx
          go_wp2_with fail
          go_roundw
          case rel => exact ⟨j + 1, k, acc ++ x.text, by go_num, rfl, by rw [← bs_append], by omega, by omega, HK2, HT2, HRN, by first | exact HB | exact below_drewN HB.out _⟩
          case measure => simp [RowKit.intOf]; omega
        | true =>
          have hkl : k < ps.length := by simp at hkk; omega
          have hklz : (k : Int) < (ps.length : Int) := by omega
          obtain ⟨q, hq⟩ : ∃ q, ps[k]? = some q := ⟨_, List.getElem?_eq_getElem hkl⟩
          have hdr : ps.drop k = q :: ps.drop (k + 1) := drop_at hq
          have hrq := hrr.pickAt hdr
          have hI2 := HIV.out.keep HB.out
          obtain ⟨ip2, ic2, he2, hic2, hI3⟩ := hI2
          rcases hI3 with hI3 | ⟨g2, o2, rfl, hg2, hI3⟩
          · rw [hI3] at hq; cases hq
          obtain ⟨rfl, rfl⟩ : ip = some ⟨g2, o2, none⟩ ∧ ic = ic2 := by simp only [Value.slice.injEq] at he2; exact ⟨he2.1, he2.2.2⟩
          have k0 := hI3 k q hq
          have HK2 : Hid ((k + 1) + hunksM (l.drop (j + 1)) = ps.length) := Lib.hid (by simp at hkk; omega)
          clear hI3 he2 hkk hrr hx hdr hq
          by_cases hk0 : q < 0
          · have d0 : decide (q < 0) = true := decide_eq_true hk0
            have HF : Hid (E = ([], 1)) := Lib.hid (HEn.out (hrq.wrong hb (.inl hk0)))
            clear hb hrq htt
            go_wp2_with fail
            go_ret2
            exact ⟨by rw [HF.out]; rfl, HB.out⟩
          have d0 : decide (q < 0) = false := decide_eq_false hk0
          by_cases hk2 : 2 < q
          · have d2 : decide (2 < q) = true := decide_eq_true hk2
            have HF : Hid (E = ([], 1)) := Lib.hid (HEn.out (hrq.wrong hb (.inr hk2)))
            clear hb hrq htt
            go_wp2_with fail
            go_ret2
            exact ⟨by rw [HF.out]; rfl, HB.out⟩
          have d2 : decide (2 < q) = false := decide_eq_false hk2
          have HRN := Lib.hid (hrq.pick hb (by omega))
          have hs3 : (sideP x q).length ≤ x.s0.length + x.s1.length + x.s2.length := by unfold sideP; split <;> (try split) <;> omega
          have HT2 : Hid ((acc ++ sideP x q).length + totP (l.drop (j + 1)) ≤ 1099511627776) := Lib.hid (by rw [List.length_append]; omega)
          have hn1 : acc.length + x.s0.length ≤ 1099511627776 := by omega
          have hn2 : acc.length + x.s1.length ≤ 1099511627776 := by omega
          have hn3 : acc.length + x.s2.length ≤ 1099511627776 := by omega
          have hqq : q = 0 ∨ q = 1 ∨ q = 2 := by omega
          clear htt hrq hb hs3 d0 d2 hk0 hk2
          rcases hqq with rfl | rfl | rfl
          all_goals (
            simp only [sideP, ↓reduceIte, show ((1 : Int) = 0) = False from by simp, show ((2 : Int) = 0) = False from by simp, show ((2 : Int) = 1) = False from by simp] at HRN HT2
            go_wp2_with fail
            go_quiet (fail)
            go_wp2_with fail
            go_roundw
            case rel => exact ⟨j + 1, k + 1, _, by go_num, by go_num, by rw [bs_append], by omega, by omega, HK2, HT2, HRN, by first | exact HB | exact below_drewN HB.out _⟩
            case measure => simp [RowKit.intOf]; omega)
      · have HF : Hid (E = (acc, 0)) := Lib.hid (by
          have h1 := HK.out
          have h2 := HR.out
          rw [List.drop_of_length_le (show l.length ≤ j by omega)] at h1 h2
          rw [List.drop_of_length_le (show ps.length ≤ k by simp [hunksM] at h1; omega)] at h2
          exact HES.out _ h2.done)
        go_wp2_with fail
        go_ret2
        exact ⟨by rw [HF.out]; rfl, HB.out⟩
end Go.Proofs.YtdegjfmjjabnnaaDoor
