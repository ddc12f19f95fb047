import Derived.Test.YtdegjfmjjabnnaaGreatDoorMkI
/-! The walks of scarfref25: run, Width. -/
namespace Go.Proofs.YtdegjfmjjabnnaaGreatDoor
set_option linter.unusedSimpArgs false
set_option linter.unusedVariables false
open Go.RowKit
open Go.Lib hiding intOf

theorem at_bs (l : List UInt8) (k : Nat) (h : k < (bs l).size) : l[k]? = some ((bs l)[k]'h) := by
  have hk : k < l.length := by rw [← bs_size l]; exact h
  rw [List.getElem?_eq_getElem hk]
  simp [bs, ByteArray.getElem_eq_getElem_data]
def startB (s : List UInt8) (i : Nat) : Bool := match i with
  | 0 => true
  | j + 1 => s[j]? == some 10
theorem runG_at (s : List UInt8) (i : Nat) (c : UInt8) (h : s[i]? = some c) (b : Bool) : runG b (s.drop i) = max (if b then lineRun (s.drop i) else 0) (runG (startB s (i + 1)) (s.drop (i + 1))) := by
  rw [drop_at h, runG]
  have e : startB s (i + 1) = (c == 10) := by
    show (s[i]? == some 10) = _
    rw [h]; rfl
  rw [e]
theorem lineRun_off (s : List UInt8) (i : Nat) (c : UInt8) (h : s[i]? = some c) (hc : isSign c = false) : lineRun (s.drop i) = 0 := by
  rw [drop_at h, lineRun, if_neg (by rw [hc]; decide)]
theorem sign_is (c : UInt8) : isSign c = (c == 60 || c == 124 || c == 61 || c == 62) := rfl
set_option maxRecDepth 100000 in
set_option maxHeartbeats 8000000 in
theorem rRun_any (s : List UInt8) (w : World) (hs : s.length ≤ 1099511627776) :
    Calls Tryz.prog 56 #[.string (bs s)] w fun e w' => e = .returned (.int .i64 (runM s : Nat)) ∧ Below w.heap.size w w' := by
  have sl := bs_size s
  obtain ⟨R, hR⟩ : ∃ R, runM s = R := ⟨_, rfl⟩
  rw [hR]
  have HN : Hid (R = max 0 (runG (startB s 0) (s.drop 0))) := Lib.hid (by rw [List.drop_zero, ← hR, ← runG_true]; show runG true s = max 0 (runG true s); omega)
  have hRl : R ≤ s.length := by rw [← hR]; exact runM_le s
  clear hR
  go_enter Tryz.func56, Tryz.ntmps56
  go_wp2_with fail
  go_loopw [3, 4] (fun s3 s4 wr => ∃ (i m : Nat), s4 = .int .i64 i ∧ s3 = .int .i64 m ∧ i ≤ s.length ∧ m ≤ s.length ∧ Hid (R = max m (runG (startB s i) (s.drop i))) ∧ Hid (Below w.heap.size w wr)) (fun _ s4 _ => s.length - (RowKit.intOf s4).toNat)
  case atStart => exact ⟨0, 0, rfl, rfl, by omega, by omega, HN, Below.refl _ _⟩
  case round =>
    obtain ⟨i, m, rfl, rfl, hi, hm, HC, HB⟩ := hrel
    by_cases hlt : i < s.length
    · have hlt' : i < (bs s).size := by omega
      have hlz : (i : Int) < (s.length : Int) := by omega
      have hbi := at_bs s i hlt'
      obtain ⟨c, hc⟩ : ∃ c, (bs s)[i]'hlt' = c := ⟨_, rfl⟩
      rw [hc] at hbi
      have hcI : (((bs s)[i]'hlt').toNat : Int) = (c.toNat : Int) := by rw [hc]
      have hcc := HC.out
      rw [runG_at s i c hbi] at hcc
      have q60 := byte_ne c 60 60 rfl
      have q124 := byte_ne c 124 124 rfl
      have q61 := byte_ne c 61 61 rfl
      have q62 := byte_ne c 62 62 rfl
      obtain ⟨ci, hci⟩ : ∃ ci : Int, (c.toNat : Int) = ci := ⟨_, rfl⟩
      rw [hci] at hcI q60 q124 q61 q62
      obtain ⟨S, hS⟩ : ∃ S, startB s i = S := ⟨_, rfl⟩
      rw [hS] at hcc
      have hst : (i = 0 ∧ S = true) ∨ (∃ (j : Nat) (hj : j < (bs s).size), i = j + 1 ∧ ((i : Int) - 1 = (j : Int)) ∧ ((((bs s)[j]'hj).toNat : Int) != 10) = !S) := by
        cases i with
        | zero => exact .inl ⟨rfl, hS.symm⟩
        | succ j =>
          have hj : j < (bs s).size := by omega
          refine .inr ⟨j, hj, rfl, by omega, ?_⟩
          rw [byte_ne _ 10 10 rfl, ← hS]
          show _ = !(s[j]? == some 10)
          rw [at_bs s j hj]; rfl
      have HX := Lib.hid (And.intro hcc (And.intro hbi hc))
      have HCI := Lib.hid hci
      clear hcc hS HC hci
      cases S with
      | false =>
        obtain ⟨j, hj, rfl, hj1, hj2⟩ := hst.resolve_left (fun h => by cases h.2)
        have HC2 : Hid (R = max m (runG (startB s (j + 1 + 1)) (s.drop (j + 1 + 1)))) := Lib.hid (by have := HX.out.1; simp only [Bool.false_eq_true, if_false] at this; omega)
        have hjz : (0 : Int) < ((j + 1 : Nat) : Int) := by omega
        simp only [Bool.not_false] at hj2
        clear HX hst hbi q60 q124 q61 q62 hc hcI
        go_wp2_with fail
        go_roundw
        case rel => exact ⟨j + 1 + 1, m, by go_num, rfl, by omega, by omega, HC2, by first | exact HB.out | exact below_drewN HB.out _⟩
        case measure => simp [RowKit.intOf]; omega
      | true =>
        go_upto_region 5 with fail
        go_cut [20] (fun s20 wx => s20 = .bool false ∧ wr = wx)
        case first =>
          rcases hst with ⟨rfl, _⟩ | ⟨j, hj, rfl, hj1, hj2⟩
          · clear hbi q60 q124 q61 q62 hc hcI HX
            go_wp2_with fail
            go_meet
            exact ⟨rfl, rfl⟩
          · have hjz : (0 : Int) < ((j + 1 : Nat) : Int) := by omega
            simp only [Bool.not_true] at hj2
            clear hbi q60 q124 q61 q62 hc hcI HX
            go_wp2_with fail
            go_meet
            exact ⟨rfl, rfl⟩
        obtain ⟨rfl, rfl⟩ := hcut
        clear hst
        cases hsg : isSign c with
        | false =>
          have HC2 : Hid (R = max m (runG (startB s (i + 1)) (s.drop (i + 1)))) := Lib.hid (by have := HX.out.1; rw [lineRun_off s i c hbi hsg] at this; simp only [if_true] at this; omega)
          rw [sign_is] at hsg
          simp only [Bool.or_eq_false_iff] at hsg
          obtain ⟨⟨⟨g1, g2⟩, g3⟩, g4⟩ := hsg
          rw [g1] at q60; rw [g2] at q124; rw [g3] at q61; rw [g4] at q62
          simp only [Bool.not_false] at q60 q124 q61 q62
          clear hbi hc HX g1 g2 g3 g4
          go_wp2_with fail
          go_roundw
          case rel => exact ⟨i + 1, m, by go_num, rfl, by omega, by omega, HC2, by first | exact HB.out | exact below_drewN HB.out _⟩
          case measure => simp [RowKit.intOf]; omega
        | true =>
          have HSG := Lib.hid hsg
          have h4 : (c = 60 ∨ c = 124) ∨ (c = 61 ∨ c = 62) := by
            rw [sign_is] at hsg
            simp only [Bool.or_eq_true, beq_iff_eq] at hsg
            rcases hsg with ((h | h) | h) | h
            · exact .inl (.inl h)
            · exact .inl (.inr h)
            · exact .inr (.inl h)
            · exact .inr (.inr h)
          go_upto_region 6 with fail
          go_cut [42] (fun s42 wx => s42 = .bool false ∧ wr = wx)
          case first =>
            clear hbi hc HX
            rcases h4 with (rfl | rfl) | (rfl | rfl)
            all_goals (
              simp only [show ((60 : UInt8) == 60) = true from rfl, show ((60 : UInt8) == 124) = false from rfl, show ((60 : UInt8) == 61) = false from rfl, show ((60 : UInt8) == 62) = false from rfl,
                show ((124 : UInt8) == 60) = false from rfl, show ((124 : UInt8) == 124) = true from rfl, show ((124 : UInt8) == 61) = false from rfl, show ((124 : UInt8) == 62) = false from rfl,
                show ((61 : UInt8) == 60) = false from rfl, show ((61 : UInt8) == 124) = false from rfl, show ((61 : UInt8) == 61) = true from rfl, show ((61 : UInt8) == 62) = false from rfl,
                show ((62 : UInt8) == 60) = false from rfl, show ((62 : UInt8) == 124) = false from rfl, show ((62 : UInt8) == 61) = false from rfl, show ((62 : UInt8) == 62) = true from rfl, Bool.not_true, Bool.not_false] at q60 q124 q61 q62
              go_wp2_with fail
              go_meet
              exact ⟨rfl, rfl⟩)
          obtain ⟨rfl, rfl⟩ := hcut
          clear h4 hsg q60 q124 q61 q62
          have HK : Hid (∀ j, j < 0 → s[i + j]? = some c) := Lib.hid (fun j hj => by omega)
          go_wp2_with fail
          go_loopw [5] (fun s5 wy => ∃ n : Nat, s5 = .int .i64 n ∧ i + n ≤ s.length ∧ Hid (∀ j, j < n → s[i + j]? = some c) ∧ Hid (Below w.heap.size w wy)) (fun s5 _ => s.length - (RowKit.intOf s5).toNat)
          case atStart => exact ⟨0, rfl, by omega, HK.out, HB.out⟩
          case round =>
            obtain ⟨n, rfl, hn, HK, HB2⟩ := hrel
            have hnz : (i : Int) + (n : Int) ≤ (s.length : Int) := by omega
            obtain ⟨k, hk⟩ : ∃ k, i + n = k := ⟨_, rfl⟩
            have hkI : (i : Int) + (n : Int) = (k : Int) := by omega
            have hwr : IntKind.i64.wrap ((i : Int) + (n : Int)) = (k : Int) := by rw [IntKind.wrap_i64]; omega
            have hwr2 : IntKind.i64.wrap (k : Int) = (k : Int) := by rw [IntKind.wrap_i64]; omega
            by_cases hend : k < s.length
            · have hn' : k < (bs s).size := by omega
              have hnz2 : (k : Int) < (s.length : Int) := by omega
              have dz : decide ((k : Int) < (s.length : Int)) = true := decide_eq_true hnz2
              have hbn := at_bs s k hn'
              have T1 := byte_eq ((bs s)[k]'hn') c ci HCI.out.symm
              by_cases he : (bs s)[k]'hn' = c
              · have HK2 : Hid (∀ j, j < n + 1 → s[i + j]? = some c) := Lib.hid (fun j hj => by
                  by_cases h : j < n
                  · exact HK.out j h
                  · obtain rfl : j = n := by omega
                    rw [hk, hbn, he])
                rw [beq_iff_eq.2 he] at T1
                clear he hbn hbi hc HX HK
                go_wp2_with fail
                try (go_quiet (fail); go_wp2_with fail)
                go_roundw
                case rel => exact ⟨n + 1, by go_num, by omega, HK2.out, by first | exact HB2.out | exact below_drewN HB2.out _⟩
                case measure => simp [RowKit.intOf]; omega
              · have hlr : lineRun (s.drop i) = n := lineRun_at (s.drop i) c n HSG.out (by rw [List.getElem?_drop, Nat.add_zero]; exact hbi) (fun j hj => by rw [List.getElem?_drop]; exact HK.out j hj) (by rw [List.getElem?_drop, hk, hbn]; exact fun h => he (Option.some.inj h))
                have HC2 : Hid (R = max (max m n) (runG (startB s (i + 1)) (s.drop (i + 1)))) := Lib.hid (by have := HX.out.1; rw [hlr] at this; simp only [if_true] at this; omega)
                rw [beq_eq_false_iff_ne.2 he] at T1
                have hmx : max (m : Int) (n : Int) = ((max m n : Nat) : Int) := by omega
                clear he hbn hbi hc HX HK hlr
                go_wp2_with fail
                try (go_quiet (fail); go_wp2_with fail)
                go_roundw
                case rel => exact ⟨i + 1, max m n, by go_num, by first | rfl | (rw [hmx]), by omega, by omega, HC2, by first | exact HB2 | exact below_drewN HB2.out _⟩
                case measure => simp [RowKit.intOf]; omega
            · have hlr : lineRun (s.drop i) = n := lineRun_at (s.drop i) c n HSG.out (by rw [List.getElem?_drop, Nat.add_zero]; exact hbi) (fun j hj => by rw [List.getElem?_drop]; exact HK.out j hj) (by rw [List.getElem?_drop, List.getElem?_eq_none (by omega)]; simp)
              have HC2 : Hid (R = max (max m n) (runG (startB s (i + 1)) (s.drop (i + 1)))) := Lib.hid (by have := HX.out.1; rw [hlr] at this; simp only [if_true] at this; omega)
              have hmx : max (m : Int) (n : Int) = ((max m n : Nat) : Int) := by omega
              have hnz2 : ¬ (k : Int) < (s.length : Int) := by omega
              have dz : decide ((k : Int) < (s.length : Int)) = false := decide_eq_false hnz2
              clear hbi hc HX HK hlr
              go_wp2_with fail
              try (go_quiet (fail); go_wp2_with fail)
              go_roundw
              case rel => exact ⟨i + 1, max m n, by go_num, by first | rfl | (rw [hmx]), by omega, by omega, HC2, by first | exact HB2 | exact below_drewN HB2.out _⟩
              case measure => simp [RowKit.intOf]; omega
    · have HF : Hid (R = m) := Lib.hid (by
        have := HC.out
        rw [List.drop_of_length_le (by omega)] at this
        rw [this]
        cases startB s i <;> simp [runG])
      go_wp2_with fail
      go_ret
      exact ⟨ret_int (by rw [HF.out]), HB.out⟩
end Go.Proofs.YtdegjfmjjabnnaaGreatDoor
