import Derived.Test.YtdegjfmjjabnnaaDoorMkL1
import Derived.Deep.RegionHeld3
/-! The walk of MarkNests. -/
namespace Go.Proofs.YtdegjfmjjabnnaaDoor
set_option linter.unusedSimpArgs false
set_option linter.unusedVariables false
open Go.RowKit
open Go.Lib hiding intOf
attribute [local go_sem] eqSides

/-- What stands of the outer hunk. -/
structure Outer (l : List Part) (s text : List UInt8) where
  sz : Sz [⟨true, [], text, s, s⟩]
  big : (bodyM (widthM [⟨true, [], text, s, s⟩]) [⟨true, [], text, s, s⟩]).length ≤ 1099511627776
  tot : totP [⟨true, [], text, s, s⟩] ≤ 1099511627776
  enc : (encM [⟨true, [], text, s, s⟩]).2 = 0
  len : (encM [⟨true, [], text, s, s⟩]).1.length ≤ 2097152
  dec : decP (encM [⟨true, [], text, s, s⟩]).1 = some [⟨true, [], text, s, s⟩]
  pick : pickM [⟨true, [], text, s, s⟩] [1] = (s, 0)
  wid : widthM l < widthM [⟨true, [], text, s, s⟩]
theorem outer_of {l : List Part} {s text : List UInt8} (hf : Few l) (ht : text.length ≤ 1024) (hs : s = (encM l).1) (hg : Good s l) : Outer l s text := by
  have h1 := few_enc hf
  rw [← hs] at h1
  have hr : rightM [⟨true, [], text, s, s⟩] = true := by simp [rightM, rightGo, okPart]
  have hh : hunksM [⟨true, [], text, s, s⟩] = 1 := rfl
  have hw := width_le [⟨true, [], text, s, s⟩] 307960 (fun x hx => by rw [List.mem_singleton] at hx; subst hx; exact ⟨Nat.zero_le _, by simp only []; omega, by simp only []; omega, by simp only []; omega⟩) (by omega)
  have hb := body_size (widthM [⟨true, [], text, s, s⟩]) [⟨true, [], text, s, s⟩]
  have htm : totM [⟨true, [], text, s, s⟩] = text.length + s.length + s.length := by simp [totM]
  rw [hh, htm] at hb
  have hg2 := enc_good hr (by rw [hh]; omega)
  have hhl := head_len (widthM [⟨true, [], text, s, s⟩]) (by omega)
  have hlen : (encM [⟨true, [], text, s, s⟩]).1.length ≤ 2097152 := by
    unfold encM
    rw [if_pos hr, List.length_append, hb]
    split
    · omega
    · simp; omega
  have hrun := run_enc hg
  refine ⟨⟨by simp, fun x hx => ?_⟩, by omega, ?_, ?_, hlen, (decP_good _ _ (by omega)).2 hg2, ?_, ?_⟩
  · rw [List.mem_singleton] at hx
    subst hx
    exact ⟨Nat.zero_le _, by simp only []; omega, by simp only []; omega, by simp only []; omega⟩
  · simp only [totP, List.map_cons, List.map_nil, List.sum_cons, List.sum_nil, List.length_nil]; omega
  · have := enc_right [⟨true, [], text, s, s⟩]
    rw [hr] at this
    simpa using this
  · unfold pickM
    rw [if_pos hr]
    simp [pickGo]
  · show widthM l < max 7 (runP _ + 1)
    unfold runP
    simp only []
    omega
theorem val_of {w : World} {v : Value} {x : Part} (h : PV w v [x]) : ∃ g o c, v = .slice (some ⟨g, o, none⟩) 1 c ∧ g < w.heap.size ∧ PCells w g o x := by
  obtain ⟨p, c, rfl, h2⟩ := h
  rcases h2 with h2 | ⟨g, o, rfl, hg, h4⟩
  · cases h2
  · refine ⟨g, o, c, rfl, hg, ?_⟩
    have := h4 0 x rfl
    rwa [Nat.zero_mul, Nat.add_zero] at this
/-- What holds all through the last region. -/
abbrev P2 (w0 : World) (vo vl : Value) (l : List Part) (X : Part) (g o M : Nat) (w' : World) : Prop :=
  (w'.cell? ⟨g, o, none⟩ = some (.bool X.hunk) ∧ w'.cell? ⟨g, o + 1, none⟩ = some (.string (bs X.text)) ∧ w'.cell? ⟨g, o + 2, none⟩ = some (.string (bs X.s0)) ∧ w'.cell? ⟨g, o + 3, none⟩ = some (.string (bs X.s1)) ∧ w'.cell? ⟨g, o + 4, none⟩ = some (.string (bs X.s2))) ∧
  (w'.cell? ⟨M, 0, none⟩ = some (.bool X.hunk) ∧ w'.cell? ⟨M, 1, none⟩ = some (.string (bs X.text)) ∧ w'.cell? ⟨M, 2, none⟩ = some (.string (bs X.s0)) ∧ w'.cell? ⟨M, 3, none⟩ = some (.string (bs X.s1)) ∧ w'.cell? ⟨M, 4, none⟩ = some (.string (bs X.s2))) ∧
  Hid (g < w'.heap.size ∧ M < w'.heap.size ∧ PV w' vo [X] ∧ PV w' vl l ∧ Below w0.heap.size w0 w')
theorem P2.step {w0 w1 w2 : World} {vo vl : Value} {l : List Part} {X : Part} {g o M : Nat} (H : P2 w0 vo vl l X g o M w1) (hb : Below w1.heap.size w1 w2) : P2 w0 vo vl l X g o M w2 := by
  obtain ⟨⟨r0, r1, r2, r3, r4⟩, ⟨q0, q1, q2, q3, q4⟩, h1, h2, h3, h4, h5⟩ := H
  obtain ⟨hc, _⟩ := bcell hb
  exact ⟨⟨(hc _ _ h1).trans r0, (hc _ _ h1).trans r1, (hc _ _ h1).trans r2, (hc _ _ h1).trans r3, (hc _ _ h1).trans r4⟩, ⟨(hc _ _ h2).trans q0, (hc _ _ h2).trans q1, (hc _ _ h2).trans q2, (hc _ _ h2).trans q3, (hc _ _ h2).trans q4⟩, Nat.lt_of_lt_of_le h1 hb.size, Nat.lt_of_lt_of_le h2 hb.size, h3.keep hb, h4.keep hb, below_of_new h5 hb⟩
theorem drew_below (w : World) : Below w.heap.size w w.drew := (Below.refl _ _).drew
theorem P2.drew {w0 w1 : World} {vo vl : Value} {l : List Part} {X : Part} {g o M : Nat} (H : P2 w0 vo vl l X g o M w1) : P2 w0 vo vl l X g o M w1.drew := H.step (drew_below w1)
set_option maxRecDepth 100000 in
set_option maxHeartbeats 8000000 in
theorem markNests_any (v : Value) (l : List Part) (text : List UInt8) (w : World) (hv : PV w v l) (hz : totP l + 5 * l.length ≤ 1048576) (hV : MkV w) (hsl : text.length ≤ 1048576) :
    Calls Tryd.prog 7 #[v, .string (bs text)] w fun e w' => e = .returned (.bool true) ∧ Below w.heap.size w w' := by
  have sl := bs_size text
  have HV := Lib.hid hV
  have HPV := Lib.hid hv
  have hbig := bulk_big hz
  have CS := Lib.hid (fun w hV => small_any w hV)
  have CF := Lib.hid (fun w hv => few_any v l w hv hbig.1)
  have CE := Lib.hid (fun w hv hV => encode_any v l w hv hbig.1 hV hbig.2)
  have CWl := Lib.hid (fun w hv => width_any v l w hv hbig.1)
  have hG : rightM l = true → 0 < hunksM l → Few l → text.length ≤ 1024 → Outer l (encM l).1 text := fun h1 h2 h3 h4 => outer_of h3 h4 rfl (enc_good h1 h2)
  have hE2 := enc_right l
  obtain ⟨E, hE⟩ : ∃ E, encM l = E := ⟨_, rfl⟩
  rw [hE] at CE hG hE2
  obtain ⟨E1, E2⟩ := E
  simp only [] at CE hG hE2
  obtain ⟨R, hR⟩ : ∃ R, rightM l = R := ⟨_, rfl⟩
  rw [hR] at hG hE2
  have hHl := hunksM_le l
  have hl := hbig.1.1
  obtain ⟨H, hH⟩ : ∃ H, hunksM l = H := ⟨_, rfl⟩
  rw [hH] at hG hHl
  obtain ⟨G, hGd⟩ : ∃ G : Bool, G = (R && decide (0 < H)) := ⟨_, rfl⟩
  have HGG : Hid (G = true → Few l → text.length ≤ 1024 → Outer l E1 text) := Lib.hid (fun h => hG (Bool.and_eq_true_iff.1 (hGd.symm.trans h)).1 (of_decide_eq_true (Bool.and_eq_true_iff.1 (hGd.symm.trans h)).2))
  have HGd := Lib.hid hGd
  have HQ := Lib.hid hE2
  have HH := Lib.hid hH
  have hlb : l.length ≤ 1048576 := by omega
  clear hE hR hG hH hbig hz hE2 hGd
  obtain ⟨p, c, rfl, hp⟩ := hv
  have HP : Hid (PLies w p l) := Lib.hid hp
  clear hp
  go_enter Tryd.func7, Tryd.ntmps7
  go_wp2_with (go_at_call 8; (with_reducible refine (CS.out _ HV.out).mono ?_); rintro e w1 ⟨rfl, hb⟩; have HB1 := Lib.hid hb; clear hb)
  with_reducible refine (CF.out _ (HPV.out.keep HB1.out)).mono ?_
  rintro e w2 ⟨b, rfl, hfew, hb⟩
  have HB2 := Lib.hid (below_of_new HB1.out hb)
  have HFew := Lib.hid hfew
  clear hb hfew
  cases b with
  | false =>
    go_wp2_with fail
    go_ret
    exact ⟨rfl, HB2.out⟩
  | true =>
    have HFw := Lib.hid (HFew.out rfl)
    clear HFew
    by_cases hlong : 1024 < text.length
    · have d1 : decide ((1024 : Int) < (text.length : Int)) = true := decide_eq_true (by omega)
      go_wp2_with fail
      go_ret
      exact ⟨rfl, HB2.out⟩
    have d1 : decide ((1024 : Int) < (text.length : Int)) = false := decide_eq_false (by omega)
    have HL : Hid (text.length ≤ 1024) := Lib.hid (by omega)
    clear hlong
    go_upto_block 0 with (go_at_call 10; (with_reducible refine (CE.out _ (HPV.out.keep HB2.out) (HV.out.keep HB2.out).p).mono ?_); rintro e w3 ⟨rfl, hb⟩; have HB4 := Lib.hid (below_of_new HB2.out hb); clear hb)
    go_cut [9] (fun s9 wx => s9 = .int .i64 (H : Nat) ∧ Hid (Below w.heap.size w wx))
    case first =>
      have HN : Hid (H = 0 + hunksM (l.drop 0)) := Lib.hid (by rw [List.drop_zero, Nat.zero_add]; exact HH.out.symm)
      go_wp2_with fail
      go_loopw [9, 10] (fun s9 s10 wr => ∃ (j n : Nat), s10 = .int .i64 j ∧ s9 = .int .i64 n ∧ j ≤ l.length ∧ n ≤ j ∧ Hid (H = n + hunksM (l.drop j)) ∧ Hid (Below w.heap.size w wr)) (fun _ s10 _ => l.length - (RowKit.intOf s10).toNat)
      case atStart => exact ⟨0, 0, rfl, rfl, by omega, by omega, HN, HB4.out⟩
      case round =>
        obtain ⟨j, n, rfl, rfl, hj, hn, HC, HB⟩ := hrel
        by_cases hlt : j < l.length
        · obtain ⟨x, hx⟩ : ∃ x, l[j]? = some x := ⟨_, List.getElem?_eq_getElem hlt⟩
          obtain ⟨g, o, rfl, hg, _, c0, c1, c2, c3, c4⟩ := (HP.out.keep HB.out).at_ hx
          have hc := HC.out
          rw [drop_at hx, hunksM_cons] at hc
          have hlz : (j : Int) < (l.length : Int) := by omega
          obtain ⟨b, hb⟩ : ∃ b, x.hunk = b := ⟨_, rfl⟩
          rw [hb] at c0 hc
          clear hx hb
          cases b with
          | true =>
            have HC2 : Hid (H = (n + 1) + hunksM (l.drop (j + 1))) := Lib.hid (by simp at hc; omega)
            clear hc HC
            go_wp2_with fail
            go_roundw
            case rel => exact ⟨j + 1, n + 1, by go_num, by go_num, by omega, by omega, HC2, by first | exact HB.out | exact below_drewN HB.out _⟩
            case measure => simp [RowKit.intOf]; omega
          | false =>
            have HC2 : Hid (H = n + hunksM (l.drop (j + 1))) := Lib.hid (by simpa using hc)
            clear hc HC
            go_wp2_with fail
            go_roundw
            case rel => exact ⟨j + 1, n, by go_num, rfl, by omega, by omega, HC2, by first | exact HB.out | exact below_drewN HB.out _⟩
            case measure => simp [RowKit.intOf]; omega
        · have HF : Hid (H = n) := Lib.hid (by
            have := HC.out
            rw [List.drop_of_length_le (by omega)] at this
            simpa [hunksM] using this)
          go_wp2_with fail
          go_meet
          exact ⟨by rw [HF.out], HB.out⟩
    case rest =>
      obtain ⟨rfl, HB5⟩ := hcut
      go_upto_region 12 with fail
      go_cut [8, 52] (fun _ s52 wx => s52 = .bool (!G) ∧ wc = wx)
      case first =>
        by_cases he : E2 = 0
        · have HGf : Hid (((H : Int) == 0) = !G) := Lib.hid (by
            rw [HGd.out, ← HQ.out, he]
            by_cases h0 : H = 0
            · subst h0; rfl
            · have : 0 < H := by omega
              simp [h0, this])
          clear HQ HGd
          subst he
          go_wp2_with fail
          go_meet
          exact ⟨congrArg Value.bool HGf.out, rfl⟩
        · have heb : (E2 != 0) = true := bne_iff_ne.2 he
          have heb2 : (E2 == 0) = false := beq_eq_false_iff_ne.2 he
          have HGf : Hid (true = !G) := Lib.hid (by rw [HGd.out, ← HQ.out, heb2]; rfl)
          clear HQ HGd
          go_wp2_with fail
          go_meet
          exact ⟨congrArg Value.bool HGf.out, rfl⟩
      case rest =>
        obtain ⟨rfl, rfl⟩ := hcut
        cases G with
        | false =>
          go_wp2_with fail
          go_ret
          exact ⟨rfl, HB5.out⟩
        | true =>
          have ho := HGG.out rfl HFw.out HL.out
          obtain ⟨X, hX⟩ : ∃ X : Part, X = ⟨true, [], text, E1, E1⟩ := ⟨_, rfl⟩
          have osz := ho.sz; have obig := ho.big; have otot := ho.tot; have oenc := ho.enc; have olen := ho.len; have odec := ho.dec; have opick := ho.pick; have owid := ho.wid
          rw [← hX] at osz obig otot oenc olen odec opick owid
          obtain ⟨T, hT⟩ : ∃ T, (encM [X]).1 = T := ⟨_, rfl⟩
          rw [hT] at olen odec
          have hTT : encM [X] = (T, 0) := Prod.ext hT oenc
          obtain ⟨wo, hwo⟩ : ∃ n, widthM [X] = n := ⟨_, rfl⟩
          obtain ⟨wl, hwl⟩ : ∃ n, widthM l = n := ⟨_, rfl⟩
          have XE : Hid (∀ v w, PV w v [X] → PTab w → Calls Tryd.prog 10 #[v] w fun e w' => e = .returned (.tuple #[.string (bs T), .int .i64 0]) ∧ Below w.heap.size w w') := Lib.hid (fun v w hv hT => by
            have := encode_any v [X] w hv osz hT obig
            rw [hTT] at this
            exact this)
          have XD : Hid (∀ w, MkV w → Calls Tryd.prog 19 #[.string (bs T)] w fun e w' => (∃ v, e = .returned (.tuple #[v, .bool true]) ∧ PV w' v [X]) ∧ Below w.heap.size w w') := Lib.hid (fun w hV =>
            (decode_any T w olen hV).mono fun e w' ⟨h, hb⟩ => And.intro (by
              rcases h with ⟨l, v, h1, h2, h3⟩ | ⟨h1, _⟩
              · rw [odec] at h1
                cases h1
                exact ⟨v, h2, h3⟩
              · rw [odec] at h1
                cases h1) hb)
          have XP : Hid (∀ v pv w, PV w v [X] → IV w pv [1] → Calls Tryd.prog 12 #[v, pv] w fun e w' => e = .returned (.tuple #[.string (bs E1), .int .i64 0]) ∧ Below w.heap.size w w') := Lib.hid (fun v pv w hv hp => by
            have := pick_any v pv [X] [1] w hv hp (by simp) (by simp) otot
            rw [opick] at this
            exact this)
          have XW : Hid (∀ v w, PV w v [X] → Calls Tryd.prog 16 #[v] w fun e w' => e = .returned (.int .i64 (wo : Nat)) ∧ Below w.heap.size w w') := Lib.hid (fun v w hv => by
            have := width_any v [X] w hv osz
            rw [hwo] at this
            exact this)
          rw [hwl] at CWl owid
          rw [hwo] at owid
          have HW := Lib.hid owid
          have H0 : Hid (PV (wc.alloc (.cells #[.bool true, .string ⟨#[]⟩, .string (bs text), .string (bs E1), .string (bs E1)] 35)) (.slice (some ⟨wc.heap.size, 0, none⟩) 1 1) [X]) := Lib.hid (by rw [hX]; exact PV.new wc [⟨true, [], text, E1, E1⟩] _ rfl)
          have HXs := Lib.hid hX
          clear ho osz obig otot oenc olen odec opick owid hX hT hTT hwo hwl HGG
          go_upto_region 15 with fail
          have hb6 := below_alloc1 wc (.cells #[.bool true, .string ⟨#[]⟩, .string (bs text), .string (bs E1), .string (bs E1)] 35)
          obtain ⟨w6, hw6⟩ : ∃ W, wc.alloc (.cells #[.bool true, .string ⟨#[]⟩, .string (bs text), .string (bs E1), .string (bs E1)] 35) = W := ⟨_, rfl⟩
          obtain ⟨M, hM⟩ : ∃ M, wc.heap.size = M := ⟨_, rfl⟩
          rw [hw6, hM] at H0
          rw [hw6] at hb6
          rw [hw6, hM]
          have HB6 := Lib.hid (below_of_new HB5.out hb6)
          clear hb6 hw6 hM
          go_wp2_with (go_at_call 10; (with_reducible refine (XE.out _ _ H0.out (HV.out.keep HB6.out).p).mono ?_); rintro e w7 ⟨rfl, hb⟩; have HB7 := Lib.hid (below_of_new HB6.out hb); have H1 := Lib.hid (H0.out.keep hb); clear hb)
          with_reducible refine (XD.out _ (HV.out.keep HB7.out)).mono ?_
          rintro e w8 ⟨⟨u, rfl, hu⟩, hb⟩
          have HB8 := Lib.hid (below_of_new HB7.out hb)
          have H2 := Lib.hid (And.intro (H1.out.keep hb) hu)
          clear hb hu
          go_wp2_with fail
          have hb9 := below_alloc1 w8 (.cells #[.int .i64 1] 3)
          have hi9 : IV (w8.alloc (.cells #[.int .i64 1] 3)) (.slice (some ⟨w8.heap.size, 0, none⟩) 1 1) [1] := IV.new w8 [1] #[.int .i64 1] rfl
          obtain ⟨w9, hw9⟩ : ∃ W, w8.alloc (.cells #[.int .i64 1] 3) = W := ⟨_, rfl⟩
          obtain ⟨M2, hM2⟩ : ∃ M, w8.heap.size = M := ⟨_, rfl⟩
          rw [hw9] at hb9
          rw [hw9, hM2] at hi9
          rw [hw9, hM2]
          have HB9 := Lib.hid (below_of_new HB8.out hb9)
          have H3 := Lib.hid (And.intro (H2.out.1.keep hb9) (H2.out.2.keep hb9))
          clear hb9 hw9 hM2
          with_reducible refine (XP.out _ _ _ H3.out.1 hi9).mono ?_
          rintro e w10 ⟨rfl, hb⟩
          have HB10 := Lib.hid (below_of_new HB9.out hb)
          have H4 := Lib.hid (And.intro (H3.out.1.keep hb) (H3.out.2.keep hb))
          clear hb hi9
          obtain ⟨g, o, cu, rfl, hgu, c0, c1, c2, c3, c4⟩ := val_of H4.out.2
          obtain ⟨gM, oM, cM, hvM, hgM, e0, e1, e2, e3, e4⟩ := val_of H4.out.1
          obtain ⟨rfl, rfl, rfl⟩ : M = gM ∧ 0 = oM ∧ 1 = cM := by simp only [Value.slice.injEq, Option.some.injEq, Addr.mk.injEq] at hvM; exact ⟨hvM.1.1, hvM.1.2.1, hvM.2.2⟩
          have HS : P2 w (.slice (some ⟨M, 0, none⟩) 1 1) (.slice p l.length c) l X g o M w10 := ⟨⟨c0, c1, c2, c3, c4⟩, ⟨e0, e1, e2, e3, e4⟩, hgu, hgM, H4.out.1, HPV.out.keep HB10.out, HB10.out⟩
          have YO : Hid (∀ w', P2 w (.slice (some ⟨M, 0, none⟩) 1 1) (.slice p l.length c) l X g o M w' → Calls Tryd.prog 16 #[.slice (some ⟨M, 0, none⟩) 1 1] w' fun e w'' => e = .returned (.int .i64 (wo : Nat)) ∧ Below w'.heap.size w' w'') := Lib.hid (fun w' h => XW.out _ w' h.2.2.out.2.2.1)
          have YL : Hid (∀ w', P2 w (.slice (some ⟨M, 0, none⟩) 1 1) (.slice p l.length c) l X g o M w' → Calls Tryd.prog 16 #[.slice p l.length c] w' fun e w'' => e = .returned (.int .i64 (wl : Nat)) ∧ Below w'.heap.size w' w'') := Lib.hid (fun w' h => CWl.out w' h.2.2.out.2.2.2.1)
          have dw : decide ((wl : Int) < (wo : Int)) = true := decide_eq_true (by have := HW.out; omega)
          have dw2 : decide (wl < wo) = true := decide_eq_true HW.out
          clear c0 c1 c2 c3 c4 e0 e1 e2 e3 e4 hgu hgM hvM
          go_upto_region 18 with fail
          go_region_held3 (fun w' => P2 w (.slice (some ⟨M, 0, none⟩) 1 1) (.slice p l.length c) l X g o M w') ((first | exact P2.drew (by assumption) | exact P2.step (by assumption) (by assumption) | assumption))
            (first
            | (go_at_call 16; (with_reducible refine (YO.out _ (by assumption)).mono ?_); rintro e w11 ⟨rfl, hb1⟩)
            | (go_at_call 16; (with_reducible refine (YL.out _ (by assumption)).mono ?_); rintro e w11 ⟨rfl, hb1⟩))
          rename_i hH
          have HB11 := Lib.hid hH.2.2.out.2.2.2.2
          clear hH
          go_wp2_with fail
          go_ret
          exact ⟨rfl, HB11.out⟩
end Go.Proofs.YtdegjfmjjabnnaaDoor
