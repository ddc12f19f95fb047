import Derived.Test.YtdegjfmjjabnnaaGreatDoorMkDc
/-! The walk of scarfref25.Encode. -/
namespace Go.Proofs.YtdegjfmjjabnnaaGreatDoor
set_option linter.unusedSimpArgs false
set_option linter.unusedVariables false
open Go.RowKit
open Go.Lib hiding intOf

/-- What holds of a part's own box all through a region. -/
abbrev XHeld (w0 : World) (M : Nat) (h : Bool) (t a b c : ByteArray) (w' : World) : Prop :=
  (w'.cell? ⟨M, 0, none⟩ = some (.bool h) ∧ w'.cell? ⟨M, 1, none⟩ = some (.string t) ∧ w'.cell? ⟨M, 2, none⟩ = some (.string a) ∧ w'.cell? ⟨M, 3, none⟩ = some (.string b) ∧ w'.cell? ⟨M, 4, none⟩ = some (.string c)) ∧
  Hid (M < w'.heap.size ∧ Below w0.heap.size w0 w')
theorem XHeld.step {w0 w1 w2 : World} {M : Nat} {h : Bool} {t a b c : ByteArray} (H : XHeld w0 M h t a b c w1) (hb : Below w1.heap.size w1 w2) : XHeld w0 M h t a b c w2 := by
  obtain ⟨⟨r0, r1, r2, r3, r4⟩, h1, h2⟩ := H
  obtain ⟨hc, _⟩ := bcell hb
  exact ⟨⟨(hc _ _ h1).trans r0, (hc _ _ h1).trans r1, (hc _ _ h1).trans r2, (hc _ _ h1).trans r3, (hc _ _ h1).trans r4⟩, Nat.lt_of_lt_of_le h1 hb.size, below_of_new h2 hb⟩
theorem XHeld.drew {w0 w1 : World} {M : Nat} {h : Bool} {t a b c : ByteArray} (H : XHeld w0 M h t a b c w1) : XHeld w0 M h t a b c w1.drew := ⟨H.1, H.2.1, H.2.2.drew⟩
theorem width_bd {l : List Part} (hs : Sz l) : widthM l ≤ 1073741825 := width_le l 1073741824 hs.2 (by omega)
theorem hunk_str (n : Nat) (x : Part) (A : List UInt8) (S0 S1 S2 S3 : ByteArray) (h0 : S0 = bs (List.replicate n 60 ++ [10])) (h1 : S1 = bs (List.replicate n 124 ++ [10])) (h2 : S2 = bs (List.replicate n 61 ++ [10])) (h3 : S3 = bs (List.replicate n 62 ++ [10])) :
    bs A ++ ⟨#[10]⟩ ++ S0 ++ bs x.s1 ++ ⟨#[10]⟩ ++ S1 ++ bs x.s0 ++ ⟨#[10]⟩ ++ S2 ++ bs x.s2 ++ ⟨#[10]⟩ ++ S3 = bs (A ++ hunkL n x) := by
  subst h0 h1 h2 h3
  rw [show (⟨#[10]⟩ : ByteArray) = bs [10] from rfl]
  simp only [bs_append]
  congr 1
  unfold hunkL mark
  simp
set_option maxRecDepth 100000 in
set_option maxHeartbeats 8000000 in
theorem rEncode_any (v : Value) (l : List Part) (w : World) (hv : PV w v l) (hs : Sz l) (hlen : (bodyM (widthM l) l).length ≤ 1099511627776) :
    Calls Tryz.prog 19 #[v] w fun e w' => e = .returned (.tuple #[.string (bs (encM l).1), .int .i64 (encM l).2]) ∧ Below w.heap.size w w' := by
  have hl := hs.1
  have hnb := width_bd hs
  have CR := Lib.hid (fun w hv => rRight_any v l w hv hl)
  have CW := Lib.hid (fun w hv => rWidth_any v l w hv hs)
  have CH := Lib.hid (fun w hv => rHunks_any v l w hv hl)
  have CS := Lib.hid (fun (c : UInt8) w => rSigns_any c (widthM l) w (by omega))
  have CD := Lib.hid (fun w => decimal_pos (widthM l) w (by omega))
  have HPV := Lib.hid hv
  have hit : Lib.decDigits (widthM l) = Lib.itoa (widthM l) := (Lib.itoa_nonneg _).symm
  have hhd := head_len (widthM l) (by omega)
  have hah := any_hunks l
  have hHl := hunksM_le l
  obtain ⟨p, c, rfl, hp⟩ := hv
  have HP : Hid (PLies w p l) := Lib.hid hp
  clear hp
  obtain ⟨E, hE⟩ : ∃ E, encM l = E := ⟨_, rfl⟩
  rw [hE]
  unfold encM at hE
  obtain ⟨R, hR⟩ : ∃ R, rightM l = R := ⟨_, rfl⟩
  rw [hR] at CR hE
  rw [hit] at CD
  obtain ⟨H, hH⟩ : ∃ H, hunksM l = H := ⟨_, rfl⟩
  rw [hH] at CH hah hHl
  obtain ⟨b, hb⟩ : ∃ b, anyHunk l = b := ⟨_, rfl⟩
  rw [hb] at hE hah
  obtain ⟨n, hn⟩ : ∃ n, widthM l = n := ⟨_, rfl⟩
  rw [hn] at CW CD CS hE hnb hhd hlen
  obtain ⟨HD, hHD⟩ : ∃ HD, (if b then headM n else []) = HD := ⟨_, rfl⟩
  rw [hHD] at hE
  have hHDl : HD.length ≤ 40 := by
    rw [← hHD]
    split
    · omega
    · simp
  have HAH := Lib.hid hah
  have HHD := Lib.hid hHD
  have HE := Lib.hid hE
  have HHH := Lib.hid hhd
  clear hR hH hb hn hHD hE hit hah hhd
  go_enter Tryz.func19, Tryz.ntmps19
  go_upto_if 12 with (go_at_call 36; (with_reducible refine (CR.out _ HPV.out).mono ?_); rintro e w1 ⟨rfl, hb⟩; have HB1 := Lib.hid hb; clear hb)
  cases R with
  | false =>
    have HF : Hid (E = ([], 1)) := Lib.hid (by rw [← HE.out]; rfl)
    go_wp2_with fail
    go_ret2
    exact ⟨by rw [HF.out]; rfl, HB1.out⟩
  | true =>
    have HE3 : Hid (E = (HD ++ bodyM n l, 0)) := Lib.hid (by rw [← HE.out]; rfl)
    clear HE
    go_upto_region 5 with (go_at_call 37; (with_reducible refine (CW.out _ (HPV.out.keep HB1.out)).mono ?_); rintro e w2 ⟨rfl, hb⟩; have HB2 := Lib.hid (below_of_new HB1.out hb); clear hb)
    go_upto_if 17 with (go_at_call 20; (with_reducible refine (CH.out _ (HPV.out.keep HB2.out)).mono ?_); rintro e w3 ⟨rfl, hb⟩; have HB3 := Lib.hid (below_of_new HB2.out hb); clear hb)
    go_cut [6] (fun s6 wx => s6 = .string (bs HD) ∧ Hid (Below w.heap.size w wx))
    case first => as_aux_lemma =>
      cases b with
      | false =>
        have h0 : H = 0 := by
          have := HAH.out
          by_cases h : 0 < H
          · rw [decide_eq_true h] at this; cases this
          · omega
        subst h0
        go_wp2_with fail
        go_meet
        exact ⟨by rw [← HHD.out]; rfl, HB3.out⟩
      | true =>
        have h0 : 0 < H := of_decide_eq_true HAH.out.symm
        have hz0 : (0 : Int) < (H : Int) := by omega
        have dz0 : decide ((0 : Int) < (H : Int)) = true := decide_eq_true hz0
        have dz1 : decide (0 < H) = true := decide_eq_true h0
        have hdl := HHH.out
        unfold headM at hdl
        obtain ⟨D, hD⟩ : ∃ D, Lib.itoa (n : Int) = D := ⟨_, rfl⟩
        rw [hD] at CD hdl
        have hDl : D.length ≤ 40 := by simp at hdl; omega
        have sD := bs_size D
        have HF : Hid ((⟨#[35, 109, 97, 114, 107, 115, 32]⟩ : ByteArray) ++ bs D ++ ⟨#[10]⟩ = bs HD) := Lib.hid (by
          rw [← HHD.out, if_pos rfl, headM, hD, show (⟨#[35, 109, 97, 114, 107, 115, 32]⟩ : ByteArray) = bs [35, 109, 97, 114, 107, 115, 32] from rfl, show (⟨#[10]⟩ : ByteArray) = bs [10] from rfl, bs_append, bs_append])
        have hn1 : ¬ 9223372036854775807 < 7 + D.length := by omega
        have hn2 : ¬ 9223372036854775807 < 7 + D.length + 1 := by omega
        clear hD hdl
        go_wp2_with (go_at_call 38; (with_reducible refine (CD.out _).mono ?_); rintro e w4 ⟨rfl, hb⟩; have HB4 := Lib.hid (below_of_new HB3.out hb); clear hb)
        go_meet
        exact ⟨congrArg Value.string HF.out, HB4.out⟩
    case rest =>
      obtain ⟨rfl, HB4⟩ := hcut
      have HT : Hid (∀ j, (bodyM n (l.take j)).length ≤ (bodyM n l).length) := Lib.hid (fun j => body_take_le n l j)
      have HBT : Hid (∀ (j : Nat) (x : Part), l[j]? = some x → bodyM n (l.take (j + 1)) = bodyM n (l.take j) ++ pieceM n x) := Lib.hid (fun j x h => body_take n l j x h)
      have HLEN := Lib.hid hlen
      clear hlen
      go_wp2_with fail
      go_loopw [6, 7] (fun s6 s7 wr => ∃ (j : Nat), s7 = .int .i64 j ∧ s6 = .string (bs (HD ++ bodyM n (l.take j))) ∧ j ≤ l.length ∧ Hid (Below w.heap.size w wr)) (fun _ s7 _ => l.length - (RowKit.intOf s7).toNat)
      case atStart => exact ⟨0, rfl, by rw [List.take_zero]; simp [bodyM], by omega, HB4.out⟩
      case round =>
        obtain ⟨j, rfl, rfl, hj, HB⟩ := hrel
        by_cases hlt : j < l.length
        · obtain ⟨x, hx⟩ : ∃ x, l[j]? = some x := ⟨_, List.getElem?_eq_getElem hlt⟩
          obtain ⟨g, o, rfl, hg, _, c0, c1, c2, c3, c4⟩ := (HP.out.keep HB.out).at_ hx
          have hlz : (j : Int) < (l.length : Int) := by omega
          obtain ⟨z0, z1, z2, z3⟩ := hs.at_ hx
          have hbt := HBT.out j x hx
          have hta := HT.out j
          have hle := HLEN.out
          obtain ⟨A, hA⟩ : ∃ A, HD ++ bodyM n (l.take j) = A := ⟨_, rfl⟩
          have hAl : A.length ≤ 1099511627816 := by rw [← hA, List.length_append]; omega
          have hnx : ∀ y, pieceM n x = y → HD ++ bodyM n (l.take (j + 1)) = A ++ y := fun y hy => by rw [hbt, ← List.append_assoc, hA, hy]
          rw [hA]
          have HNX := Lib.hid hnx
          have hpb := partBox wr x 30
          have hbb : Below wr.heap.size wr (wr.alloc (.cells #[.bool x.hunk, .string (bs x.text), .string (bs x.s0), .string (bs x.s1), .string (bs x.s2)] 30)) := below_alloc1 wr _
          have hsz : wr.heap.size < (wr.alloc (.cells #[.bool x.hunk, .string (bs x.text), .string (bs x.s0), .string (bs x.s1), .string (bs x.s2)] 30)).heap.size := by simp
          have st := bs_size x.text; have s0 := bs_size x.s0; have s1 := bs_size x.s1; have s2 := bs_size x.s2; have sA := bs_size A
          clear hbt hta hle hA hnx hx HBT HT HLEN
          go_upto_region 12 with fail
          obtain ⟨W1, hW1⟩ : ∃ W, wr.alloc (.cells #[.bool x.hunk, .string (bs x.text), .string (bs x.s0), .string (bs x.s1), .string (bs x.s2)] 30) = W := ⟨_, rfl⟩
          obtain ⟨M, hM⟩ : ∃ M, wr.heap.size = M := ⟨_, rfl⟩
          have HB1' := below_of_new HB.out hbb
          rw [hW1, hM] at hpb hsz
          rw [hW1] at HB1'
          rw [hW1, hM]
          obtain ⟨d0, d1, d2, d3, d4⟩ := hpb
          rw [Nat.zero_add] at d1 d2 d3 d4
          have HX : XHeld w M x.hunk (bs x.text) (bs x.s0) (bs x.s1) (bs x.s2) W1 := ⟨⟨d0, d1, d2, d3, d4⟩, hsz, HB1'⟩
          clear hbb hW1 hM HB1' d0 d1 d2 d3 d4 hsz c0 c1 c2 c3 c4 hg
          obtain ⟨b, hb⟩ : ∃ b, x.hunk = b := ⟨_, rfl⟩
          cases b with
          | false =>
            have HC2 : Hid (bs A ++ bs x.text = bs (HD ++ bodyM n (l.take (j + 1)))) := Lib.hid (by rw [HNX.out x.text (by unfold pieceM; rw [hb]; rfl), bs_append])
            rw [hb] at HX
            obtain ⟨⟨d0, d1, d2, d3, d4⟩, hh⟩ := HX
            have hn1 : ¬ 9223372036854775807 < A.length + x.text.length := by omega
            clear hb HNX
            go_wp2_with fail
            go_roundw
            case rel => exact ⟨j + 1, by go_num, congrArg Value.string HC2.out, by omega, hh.out.2⟩
            case measure => simp [RowKit.intOf]; omega
          | true =>
            obtain ⟨S0, h0⟩ : ∃ S, S = bs (List.replicate n 60 ++ [10]) := ⟨_, rfl⟩
            obtain ⟨S1, h1⟩ : ∃ S, S = bs (List.replicate n 124 ++ [10]) := ⟨_, rfl⟩
            obtain ⟨S2, h2⟩ : ∃ S, S = bs (List.replicate n 61 ++ [10]) := ⟨_, rfl⟩
            obtain ⟨S3, h3⟩ : ∃ S, S = bs (List.replicate n 62 ++ [10]) := ⟨_, rfl⟩
            have C0 : Hid (∀ w, Calls Tryz.prog 18 #[.int .u8 60, .int .i64 n] w fun e w' => e = .returned (.string S0) ∧ Below w.heap.size w w') := Lib.hid (fun w => by have := CS.out 60 w; rw [← h0] at this; exact this)
            have C1 : Hid (∀ w, Calls Tryz.prog 18 #[.int .u8 124, .int .i64 n] w fun e w' => e = .returned (.string S1) ∧ Below w.heap.size w w') := Lib.hid (fun w => by have := CS.out 124 w; rw [← h1] at this; exact this)
            have C2 : Hid (∀ w, Calls Tryz.prog 18 #[.int .u8 61, .int .i64 n] w fun e w' => e = .returned (.string S2) ∧ Below w.heap.size w w') := Lib.hid (fun w => by have := CS.out 61 w; rw [← h2] at this; exact this)
            have C3 : Hid (∀ w, Calls Tryz.prog 18 #[.int .u8 62, .int .i64 n] w fun e w' => e = .returned (.string S3) ∧ Below w.heap.size w w') := Lib.hid (fun w => by have := CS.out 62 w; rw [← h3] at this; exact this)
            have HC2 : Hid (bs A ++ ⟨#[10]⟩ ++ S0 ++ bs x.s1 ++ ⟨#[10]⟩ ++ S1 ++ bs x.s0 ++ ⟨#[10]⟩ ++ S2 ++ bs x.s2 ++ ⟨#[10]⟩ ++ S3 = bs (HD ++ bodyM n (l.take (j + 1)))) := Lib.hid (by rw [HNX.out (hunkL n x) (by unfold pieceM; rw [hb]; rfl), hunk_str n x A S0 S1 S2 S3 h0 h1 h2 h3])
            have t0 : S0.size ≤ 1073741826 := by rw [h0, bs_size]; simp; omega
            have t1 : S1.size ≤ 1073741826 := by rw [h1, bs_size]; simp; omega
            have t2 : S2.size ≤ 1073741826 := by rw [h2, bs_size]; simp; omega
            have t3 : S3.size ≤ 1073741826 := by rw [h3, bs_size]; simp; omega
            obtain ⟨BA, hBA⟩ : ∃ B, bs A = B := ⟨_, rfl⟩
            rw [hBA] at sA HC2
            rw [hBA]
            have tA : BA.size ≤ 1099511627816 := by omega
            rw [hb] at HX
            obtain ⟨X0, hX0⟩ : ∃ X, bs x.s0 = X := ⟨_, rfl⟩
            obtain ⟨X1, hX1⟩ : ∃ X, bs x.s1 = X := ⟨_, rfl⟩
            obtain ⟨X2, hX2⟩ : ∃ X, bs x.s2 = X := ⟨_, rfl⟩
            have u0 : X0.size ≤ 1073741824 := by rw [← hX0, s0]; exact z1
            have u1 : X1.size ≤ 1073741824 := by rw [← hX1, s1]; exact z2
            have u2 : X2.size ≤ 1073741824 := by rw [← hX2, s2]; exact z3
            rw [hX0, hX1, hX2] at HC2 HX
            obtain ⟨T1, g1⟩ : ∃ T, BA ++ (⟨#[10]⟩ : ByteArray) = T := ⟨_, rfl⟩
            have v1 : T1.size ≤ 1100585369642 := by rw [← g1, ByteArray.size_append]; show _ + 1 ≤ _; omega
            rw [g1] at HC2
            obtain ⟨T2, g2⟩ : ∃ T, T1 ++ (S0 : ByteArray) = T := ⟨_, rfl⟩
            have v2 : T2.size ≤ 1101659111468 := by rw [← g2, ByteArray.size_append]; omega
            rw [g2] at HC2
            obtain ⟨T3, g3⟩ : ∃ T, T2 ++ (X1 : ByteArray) = T := ⟨_, rfl⟩
            have v3 : T3.size ≤ 1102732853294 := by rw [← g3, ByteArray.size_append]; omega
            rw [g3] at HC2
            obtain ⟨T4, g4⟩ : ∃ T, T3 ++ (⟨#[10]⟩ : ByteArray) = T := ⟨_, rfl⟩
            have v4 : T4.size ≤ 1103806595120 := by rw [← g4, ByteArray.size_append]; show _ + 1 ≤ _; omega
            rw [g4] at HC2
            obtain ⟨T5, g5⟩ : ∃ T, T4 ++ (S1 : ByteArray) = T := ⟨_, rfl⟩
            have v5 : T5.size ≤ 1104880336946 := by rw [← g5, ByteArray.size_append]; omega
            rw [g5] at HC2
            obtain ⟨T6, g6⟩ : ∃ T, T5 ++ (X0 : ByteArray) = T := ⟨_, rfl⟩
            have v6 : T6.size ≤ 1105954078772 := by rw [← g6, ByteArray.size_append]; omega
            rw [g6] at HC2
            obtain ⟨T7, g7⟩ : ∃ T, T6 ++ (⟨#[10]⟩ : ByteArray) = T := ⟨_, rfl⟩
            have v7 : T7.size ≤ 1107027820598 := by rw [← g7, ByteArray.size_append]; show _ + 1 ≤ _; omega
            rw [g7] at HC2
            obtain ⟨T8, g8⟩ : ∃ T, T7 ++ (S2 : ByteArray) = T := ⟨_, rfl⟩
            have v8 : T8.size ≤ 1108101562424 := by rw [← g8, ByteArray.size_append]; omega
            rw [g8] at HC2
            obtain ⟨T9, g9⟩ : ∃ T, T8 ++ (X2 : ByteArray) = T := ⟨_, rfl⟩
            have v9 : T9.size ≤ 1109175304250 := by rw [← g9, ByteArray.size_append]; omega
            rw [g9] at HC2
            obtain ⟨T10, g10⟩ : ∃ T, T9 ++ (⟨#[10]⟩ : ByteArray) = T := ⟨_, rfl⟩
            have v10 : T10.size ≤ 1110249046076 := by rw [← g10, ByteArray.size_append]; show _ + 1 ≤ _; omega
            rw [g10] at HC2
            obtain ⟨T11, g11⟩ : ∃ T, T10 ++ (S3 : ByteArray) = T := ⟨_, rfl⟩
            have v11 : T11.size ≤ 1111322787902 := by rw [← g11, ByteArray.size_append]; omega
            rw [g11] at HC2
            have n1 : ¬ 9223372036854775807 < BA.size + 1 := by omega
            have n2 : ¬ 9223372036854775807 < T1.size + S0.size := by omega
            have n3 : ¬ 9223372036854775807 < T2.size + X1.size := by omega
            have n4 : ¬ 9223372036854775807 < T3.size + 1 := by omega
            have n5 : ¬ 9223372036854775807 < T4.size + S1.size := by omega
            have n6 : ¬ 9223372036854775807 < T5.size + X0.size := by omega
            have n7 : ¬ 9223372036854775807 < T6.size + 1 := by omega
            have n8 : ¬ 9223372036854775807 < T7.size + S2.size := by omega
            have n9 : ¬ 9223372036854775807 < T8.size + X2.size := by omega
            have n10 : ¬ 9223372036854775807 < T9.size + 1 := by omega
            have n11 : ¬ 9223372036854775807 < T10.size + S3.size := by omega
            clear hb HNX h0 h1 h2 h3 CS CR CW CH CD hBA hX0 hX1 hX2 s0 s1 s2 st sA z0 z1 z2 z3 hHl hHDl
            go_upto_region 14 with fail
            go_region_held3 (fun w' => XHeld w M true (bs x.text) X0 X1 X2 w') ((first | exact XHeld.drew (by assumption) | exact XHeld.step (by assumption) (by assumption) | assumption))
              (first
              | (go_at_call 18; (with_reducible refine (C0.out _).mono ?_); rintro e w11 ⟨rfl, hb1⟩)
              | (go_at_call 18; (with_reducible refine (C1.out _).mono ?_); rintro e w11 ⟨rfl, hb1⟩)
              | (go_at_call 18; (with_reducible refine (C2.out _).mono ?_); rintro e w11 ⟨rfl, hb1⟩)
              | (go_at_call 18; (with_reducible refine (C3.out _).mono ?_); rintro e w11 ⟨rfl, hb1⟩))
            rename_i hH
            have HB2 := Lib.hid hH.2.out.2
            clear hH
            go_wp2_with fail
            go_roundw
            case rel => exact ⟨j + 1, by go_num, congrArg Value.string HC2.out, by omega, HB2.out⟩
            case measure => simp [RowKit.intOf]; omega
        · have HF : Hid (bs (HD ++ bodyM n (l.take j)) = bs E.1 ∧ E.2 = 0) := Lib.hid (by
            rw [List.take_of_length_le (by omega), HE3.out]
            exact ⟨rfl, rfl⟩)
          go_wp2_with fail
          go_ret2
          exact ⟨by rw [HF.out.1, HF.out.2]; rfl, HB.out⟩
end Go.Proofs.YtdegjfmjjabnnaaGreatDoor
