import Derived.Test.YtdegjfmjjabnnaaDoorMkL1
/-! The walk of MarkBack. -/
namespace Go.Proofs.YtdegjfmjjabnnaaDoor
set_option linter.unusedSimpArgs false
set_option linter.unusedVariables false
open Go.RowKit
open Go.Lib hiding intOf

set_option maxRecDepth 100000 in
set_option maxHeartbeats 8000000 in
theorem markBack_any (v : Value) (l : List Part) (s : List UInt8) (w : World) (hv : PV w v l) (hz : totP l + 5 * l.length ≤ 1048576) (hV : MkV w) (hsl : s.length ≤ 1048576) :
    Calls Tryd.prog 4 #[v, .string (bs s)] w fun e w' => e = .returned (.bool true) ∧ Below w.heap.size w w' := by
  have sl := bs_size s
  have HV := Lib.hid hV
  have HPV := Lib.hid hv
  have hbig := bulk_big hz
  have CS := Lib.hid (fun w hV => small_any w hV)
  have CF := Lib.hid (fun w hv => few_any v l w hv hbig.1)
  have CE := Lib.hid (fun w hv hV => encode_any v l w hv hbig.1 hV hbig.2)
  have CR := Lib.hid (fun w hv => Right_any v l w hv hbig.1.1)
  have CD : Hid (∀ w, s.length ≤ 2097152 → MkV w → Calls Tryd.prog 19 #[.string (bs s)] w fun e w' => DecE s e w' ∧ Below w.heap.size w w') := Lib.hid (fun w hs hV => decode_any s w hs hV)
  have hG : rightM l = true → 0 < hunksM l → Few l → ∀ w, MkV w → Calls Tryd.prog 19 #[.string (bs (encM l).1)] w fun e w' => (∃ v, e = .returned (.tuple #[v, .bool true]) ∧ PV w' v l) ∧ Below w.heap.size w w' := fun h1 h2 h3 w hV => by
    have hle := few_enc h3
    have hd := (decP_good (encM l).1 l (by omega)).2 (enc_good h1 h2)
    refine (decode_any (encM l).1 w (by omega) hV).mono fun e w' ⟨h, hb⟩ => And.intro ?_ hb
    rcases h with ⟨m, u, h1, h2, h3⟩ | ⟨h1, _⟩
    · rw [hd] at h1
      cases h1
      exact ⟨u, h2, h3⟩
    · rw [hd] at h1
      cases h1
  have hE2 := enc_right l
  obtain ⟨E, hE⟩ : ∃ E, encM l = E := ⟨_, rfl⟩
  rw [hE] at CE hG hE2
  obtain ⟨E1, E2⟩ := E
  simp only [] at CE hG hE2
  obtain ⟨R, hR⟩ : ∃ R, rightM l = R := ⟨_, rfl⟩
  rw [hR] at CR hG hE2
  have hHl := hunksM_le l
  have hl := hbig.1.1
  obtain ⟨H, hH⟩ : ∃ H, hunksM l = H := ⟨_, rfl⟩
  rw [hH] at hG hHl
  have HG := Lib.hid hG
  have HH := Lib.hid hH
  have hlb : l.length ≤ 1048576 := by omega
  clear hE hR hG hH hbig hz
  obtain ⟨p, c, rfl, hp⟩ := hv
  have HP : Hid (PLies w p l) := Lib.hid hp
  clear hp
  go_enter Tryd.func4, Tryd.ntmps4
  go_wp2_with (go_at_call 8; (with_reducible refine (CS.out _ HV.out).mono ?_); rintro e w1 ⟨rfl, hb⟩; have HB1 := Lib.hid hb; clear hb)
  with_reducible refine (CF.out _ (HPV.out.keep HB1.out)).mono ?_
  rintro e w2 ⟨b, rfl, hfew, hb⟩
  have HB2 := Lib.hid (below_of_new HB1.out hb)
  have HFew := Lib.hid hfew
  clear hb hfew
  cases b with
  | false =>
    go_wp2_with fail
    go_ret
    exact ⟨rfl, HB2.out⟩
  | true =>
    have HFw := Lib.hid (HFew.out rfl)
    clear HFew
    by_cases hlong : 4096 < s.length
    · have d1 : decide ((4096 : Int) < (s.length : Int)) = true := decide_eq_true (by omega)
      go_wp2_with fail
      go_ret
      exact ⟨rfl, HB2.out⟩
    have d1 : decide ((4096 : Int) < (s.length : Int)) = false := decide_eq_false (by omega)
    have HL : Hid (s.length ≤ 4096) := Lib.hid (by omega)
    clear hlong
    go_wp2_with (go_at_call 10; (with_reducible refine (CE.out _ (HPV.out.keep HB2.out) (HV.out.keep HB2.out).p).mono ?_); rintro e w3 ⟨rfl, hb⟩; have HB3 := Lib.hid (below_of_new HB2.out hb); clear hb)
    with_reducible refine (CR.out _ (HPV.out.keep HB3.out)).mono ?_
    rintro e w4 ⟨rfl, hb⟩
    have HB4 := Lib.hid (below_of_new HB3.out hb)
    clear hb
    go_upto_block 0 with fail
    obtain ⟨q, hq⟩ : ∃ q, (E2 == 0) = q := ⟨_, rfl⟩
    rw [hq] at hE2
    subst hE2
    have HQ := Lib.hid hq
    clear hq
    go_cut [9] (fun s9 wx => s9 = .int .i64 (H : Nat) ∧ Hid (Below w.heap.size w wx))
    case first =>
      have HN : Hid (H = 0 + hunksM (l.drop 0)) := Lib.hid (by rw [List.drop_zero, Nat.zero_add]; exact HH.out.symm)
      go_wp2_with fail
      go_loopw [9, 10] (fun s9 s10 wr => ∃ (j n : Nat), s10 = .int .i64 j ∧ s9 = .int .i64 n ∧ j ≤ l.length ∧ n ≤ j ∧ Hid (H = n + hunksM (l.drop j)) ∧ Hid (Below w.heap.size w wr)) (fun _ s10 _ => l.length - (RowKit.intOf s10).toNat)
      case atStart => exact ⟨0, 0, rfl, rfl, by omega, by omega, HN, HB4.out⟩
      case round =>
        obtain ⟨j, n, rfl, rfl, hj, hn, HC, HB⟩ := hrel
        by_cases hlt : j < l.length
        · obtain ⟨x, hx⟩ : ∃ x, l[j]? = some x := ⟨_, List.getElem?_eq_getElem hlt⟩
          obtain ⟨g, o, rfl, hg, _, c0, c1, c2, c3, c4⟩ := (HP.out.keep HB.out).at_ hx
          have hc := HC.out
          rw [drop_at hx, hunksM_cons] at hc
          have hlz : (j : Int) < (l.length : Int) := by omega
          obtain ⟨b, hb⟩ : ∃ b, x.hunk = b := ⟨_, rfl⟩
          rw [hb] at c0 hc
          clear hx hb
          cases b with
          | true =>
            have HC2 : Hid (H = (n + 1) + hunksM (l.drop (j + 1))) := Lib.hid (by simp at hc; omega)
            clear hc HC
            go_wp2_with fail
            go_roundw
            case rel => exact ⟨j + 1, n + 1, by go_num, by go_num, by omega, by omega, HC2, by first | exact HB.out | exact below_drewN HB.out _⟩
            case measure => simp [RowKit.intOf]; omega
          | false =>
            have HC2 : Hid (H = n + hunksM (l.drop (j + 1))) := Lib.hid (by simpa using hc)
            clear hc HC
            go_wp2_with fail
            go_roundw
            case rel => exact ⟨j + 1, n, by go_num, rfl, by omega, by omega, HC2, by first | exact HB.out | exact below_drewN HB.out _⟩
            case measure => simp [RowKit.intOf]; omega
        · have HF : Hid (H = n) := Lib.hid (by
            have := HC.out
            rw [List.drop_of_length_le (by omega)] at this
            simpa [hunksM] using this)
          go_wp2_with fail
          go_meet
          exact ⟨by rw [HF.out], HB.out⟩
    case rest =>
      obtain ⟨rfl, HB5⟩ := hcut
      go_upto_region 14 with fail
      obtain ⟨G, hG⟩ : ∃ G : Bool, G = (q && decide (0 < H)) := ⟨_, rfl⟩
      have HGd := Lib.hid hG
      have HGG : Hid (G = true → ∀ w, MkV w → Calls Tryd.prog 19 #[.string (bs E1)] w fun e w' => (∃ v, e = .returned (.tuple #[v, .bool true]) ∧ PV w' v l) ∧ Below w.heap.size w w') := Lib.hid (fun h => HG.out (Bool.and_eq_true_iff.1 (hG.symm.trans h)).1 (of_decide_eq_true (Bool.and_eq_true_iff.1 (hG.symm.trans h)).2) HFw.out)
      clear hG
      go_cut [8, 56] (fun _ s56 wx => s56 = .bool G ∧ wc = wx)
      case first =>
        by_cases he : E2 = 0
        · have HGf : Hid (decide (0 < H) = G) := Lib.hid (by rw [HGd.out, ← HQ.out, he]; rfl)
          clear HQ HGd
          subst he
          go_wp2_with fail
          go_meet
          exact ⟨congrArg Value.bool HGf.out, rfl⟩
        · have heb : (E2 == 0) = false := beq_eq_false_iff_ne.2 he
          have HGf : Hid (false = G) := Lib.hid (by rw [HGd.out, ← HQ.out, heb]; rfl)
          clear HQ HGd
          go_wp2_with fail
          go_meet
          exact ⟨congrArg Value.bool HGf.out, rfl⟩
      case rest =>
        obtain ⟨rfl, rfl⟩ := hcut
        go_upto_if 56 with fail
        go_cut [] (fun wx => Hid (Below w.heap.size w wx))
        case first =>
          cases G with
          | false =>
            go_wp2_with fail
            go_meet
            exact HB5
          | true =>
            have CG := Lib.hid (HGG.out rfl)
            go_wp2_with (go_at_call 19; (with_reducible refine (CG.out _ (HV.out.keep HB5.out)).mono ?_); rintro e w6 ⟨⟨u, rfl, hu⟩, hb⟩; have HB6 := Lib.hid (below_of_new HB5.out hb); have HU := Lib.hid hu; clear hb hu)
            with_reducible refine (rSame_yes _ _ l _ (HPV.out.keep HB6.out) HU.out hl).mono ?_
            rintro e w7 ⟨rfl, hb⟩
            have HB7 := Lib.hid (below_of_new HB6.out hb)
            clear hb
            go_wp2_with fail
            go_meet
            exact HB7
        case rest =>
          have HB8 := hcut
          clear hcut HB5
          go_wp2_with (go_at_call 19; (with_reducible refine (CD.out _ (by omega) (HV.out.keep HB8.out)).mono ?_); rintro e w9 ⟨hd, hb⟩; have HB9 := Lib.hid (below_of_new HB8.out hb); have HD := Lib.hid hd; clear hb hd; rcases HD.out with ⟨m, u, hm, rfl, hu⟩ | ⟨hm, rfl⟩)
          · have hbg := decP_big (by omega) hm
            have hgd := (decP_good s m (by omega)).1 hm
            have CE2 : Hid (∀ w, PV w u m → PTab w → Calls Tryd.prog 10 #[u] w fun e w' => e = .returned (.tuple #[.string (bs s), .int .i64 0]) ∧ Below w.heap.size w w') := Lib.hid (fun w hv hT => by
              have := encode_any u m w hv hbg.1 hT hbg.2
              rw [hgd.1] at this
              exact this)
            have CR2 : Hid (∀ w, PV w u m → Calls Tryd.prog 14 #[u] w fun e w' => e = .returned (.bool true) ∧ Below w.heap.size w w') := Lib.hid (fun w hv => by
              have := Right_any u m w hv hbg.1.1
              rw [(good_shape hgd).1] at this
              exact this)
            have HU := Lib.hid hu
            have he9 : ((bs s).toList == (bs s).toList) = true := by simp
            clear hbg hgd hm hu HD
            with_reducible refine (CE2.out _ HU.out (HV.out.keep HB9.out).p).mono ?_
            rintro e w10 ⟨rfl, hb⟩
            have HB10 := Lib.hid (And.intro (below_of_new HB9.out hb) (HU.out.keep hb))
            clear hb
            go_wp2_with (go_at_call 14; (with_reducible refine (CR2.out _ HB10.out.2).mono ?_); rintro e w11 ⟨rfl, hb⟩; have HB11 := Lib.hid (below_of_new HB10.out.1 hb); clear hb)
            go_ret
            exact ⟨rfl, HB11.out⟩
          · go_ret
            exact ⟨rfl, HB9.out⟩
end Go.Proofs.YtdegjfmjjabnnaaDoor
