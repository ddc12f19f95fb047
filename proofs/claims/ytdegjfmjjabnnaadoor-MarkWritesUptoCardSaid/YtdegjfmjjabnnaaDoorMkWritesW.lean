import Derived.Test.YtdegjfmjjabnnaaDoorMkEn
import Derived.Test.YtdegjfmjjabnnaaDoorMkCp
/-! The walk of MarkWrites. -/
namespace Go.Proofs.YtdegjfmjjabnnaaDoor
set_option linter.unusedSimpArgs false
set_option linter.unusedVariables false
open Go.RowKit
open Go.Lib hiding intOf

set_option maxRecDepth 100000 in
set_option maxHeartbeats 8000000 in
theorem markWrites_any (v pv : Value) (l : List Part) (ps : List Int) (w : World) (hv : PV w v l) (hz : totP l + 5 * l.length ≤ 1048576) (hpv : IV w pv ps) (hpl : ps.length ≤ 1048576) (hV : MkV w) :
    Calls Tryd.prog 3 #[v, pv] w fun e w' => e = .returned (.bool true) ∧ Below w.heap.size w w' := by
  have HV := Lib.hid hV
  have HPV := Lib.hid hv
  have HIV := Lib.hid hpv
  have hbig := bulk_big hz
  have hl := hbig.1.1
  have htp : totP l ≤ 1099511627776 := by omega
  have CS := Lib.hid (fun w hV => small_any w hV)
  have CF := Lib.hid (fun w hv => few_any v l w hv hbig.1)
  have XE := Lib.hid (fun u w hv hV => encode_any u l w hv hbig.1 hV hbig.2)
  have YE := Lib.hid (fun u w hv => rEncode_any u l w hv hbig.1 hbig.2)
  have XP := Lib.hid (fun u q w hv hp => pick_any u q l ps w hv hp hl (by omega) htp)
  have YP := Lib.hid (fun u q w hv hp => rPick_any u q l ps w hv hp hl (by omega) htp)
  have XR := Lib.hid (fun u w hv => Right_any u l w hv hl)
  have YR := Lib.hid (fun u w hv => rRight_any u l w hv hl)
  have XW := Lib.hid (fun u w hv => width_any u l w hv hbig.1)
  have YW := Lib.hid (fun u w hv => rWidth_any u l w hv hbig.1)
  have YS := Lib.hid (fun u v w h1 h2 => rSame_yes u v l w h1 h2 hl)
  obtain ⟨E, hE⟩ : ∃ E, encM l = E := ⟨_, rfl⟩
  rw [hE] at XE YE
  obtain ⟨E1, E2⟩ := E
  obtain ⟨T, hT⟩ : ∃ T, pickM l ps = T := ⟨_, rfl⟩
  rw [hT] at XP YP
  obtain ⟨T1, T2⟩ := T
  simp only [] at XE YE XP YP
  obtain ⟨R, hR⟩ : ∃ R, rightM l = R := ⟨_, rfl⟩
  rw [hR] at XR YR
  obtain ⟨n, hn⟩ : ∃ n, widthM l = n := ⟨_, rfl⟩
  rw [hn] at XW YW
  have hlb : l.length ≤ 1048576 := by omega
  have HLB := Lib.hid hlb
  clear hE hT hR hn hbig hz htp
  obtain ⟨p, c, rfl, hp⟩ := hv
  obtain ⟨ip, ic, rfl, hic, _⟩ := hpv
  have HP : Hid (PLies w p l) := Lib.hid hp
  clear hp
  go_enter Tryd.func3, Tryd.ntmps3
  go_wp2_with (go_at_call 8; (with_reducible refine (CS.out _ HV.out).mono ?_); rintro e w1 ⟨rfl, hb⟩; have HB1 := Lib.hid hb; clear hb)
  with_reducible refine (CF.out _ (HPV.out.keep HB1.out)).mono ?_
  rintro e w2 ⟨b, rfl, hfew, hb⟩
  have HB2 := Lib.hid (below_of_new HB1.out hb)
  clear hb hfew
  cases b with
  | false =>
    go_wp2_with fail
    go_ret
    exact ⟨rfl, HB2.out⟩
  | true =>
    have HO0 := Lib.hid (OwnsParts.new0 w2)
    have hb0 := below_alloc1 w2 (.cells #[] 35)
    have HBa := Lib.hid (below_of_new HB2.out hb0)
    clear hb0
    have hs2 : w2.heap.size ≤ (w2.alloc (.cells #[] 35)).heap.size := by simp
    have HP2 := Lib.hid (HP.out.keep HBa.out)
    go_wp2_with (at_builtin; go_must (refine wpList_parts rfl _ _ rfl w2.heap.size (w2.alloc (.cells #[] 35)) (.slice (some ⟨w2.heap.size, 0, none⟩) 0 0) [] l rfl HO0.out p c rfl HP2.out (by have := HLB.out; simp; omega) hs2 ?_); intro u w3 hown1 hbel1)
    have HB3 : Hid (Below w.heap.size w w3) := Lib.hid (HBa.out.trans (hbel1.mono HB2.out.size))
    have HU3 : Hid (PV w3 u l) := Lib.hid (by have := hown1.toPV; rwa [List.nil_append] at this)
    clear hown1 hbel1 hs2 HP2 HBa HO0
    with_reducible refine (XE.out _ _ HU3.out (HV.out.keep HB3.out).p).mono ?_
    rintro e w4 ⟨rfl, hb⟩
    have HB4 := Lib.hid (below_of_new HB3.out hb)
    have HU4 := Lib.hid (HU3.out.keep hb)
    clear hb HU3
    go_wp2_with (go_at_call 11; (with_reducible refine (YE.out _ _ (HPV.out.keep HB4.out)).mono ?_); rintro e w5 ⟨rfl, hb⟩; have HB5 := Lib.hid (below_of_new HB4.out hb); have HU5 := Lib.hid (HU4.out.keep hb); clear hb)
    with_reducible refine (XP.out _ _ _ HU5.out (HIV.out.keep HB5.out)).mono ?_
    rintro e w6 ⟨rfl, hb⟩
    have HB6 := Lib.hid (below_of_new HB5.out hb)
    have HU6 := Lib.hid (HU5.out.keep hb)
    clear hb HU4 HU5
    go_wp2_with (go_at_call 13; (with_reducible refine (YP.out _ _ _ (HPV.out.keep HB6.out) (HIV.out.keep HB6.out)).mono ?_); rintro e w7 ⟨rfl, hb⟩; have HB7 := Lib.hid (below_of_new HB6.out hb); have HU7 := Lib.hid (HU6.out.keep hb); clear hb)
    with_reducible refine (XR.out _ _ HU7.out).mono ?_
    rintro e w8 ⟨rfl, hb⟩
    have HB8 := Lib.hid (below_of_new HB7.out hb)
    have HU8 := Lib.hid (HU7.out.keep hb)
    clear hb HU6 HU7
    go_wp2_with (go_at_call 15; (with_reducible refine (YR.out _ _ (HPV.out.keep HB8.out)).mono ?_); rintro e w9 ⟨rfl, hb⟩; have HB9 := Lib.hid (below_of_new HB8.out hb); have HU9 := Lib.hid (HU8.out.keep hb); clear hb)
    with_reducible refine (XW.out _ _ HU9.out).mono ?_
    rintro e w10 ⟨rfl, hb⟩
    have HB10 := Lib.hid (below_of_new HB9.out hb)
    have HU10 := Lib.hid (HU9.out.keep hb)
    clear hb HU8 HU9
    go_wp2_with (go_at_call 17; (with_reducible refine (YW.out _ _ (HPV.out.keep HB10.out)).mono ?_); rintro e w11 ⟨rfl, hb⟩; have HB11 := Lib.hid (below_of_new HB10.out hb); have HU11 := Lib.hid (HU10.out.keep hb); clear hb)
    with_reducible refine (YS.out _ _ _ HU11.out (HPV.out.keep HB11.out)).mono ?_
    rintro e w12 ⟨rfl, hb⟩
    have HB12 := Lib.hid (below_of_new HB11.out hb)
    clear hb
    go_wp2_with fail
    go_ret
    exact ⟨rfl, HB12.out⟩
end Go.Proofs.YtdegjfmjjabnnaaDoor
