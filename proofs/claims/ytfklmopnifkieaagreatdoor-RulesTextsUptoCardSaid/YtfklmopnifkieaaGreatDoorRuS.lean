import Derived.Test.YtfklmopnifkieaaGreatDoorRuN
/-! The walks of rules.Parse, rules.Print. -/
namespace Go.Proofs.YtfklmopnifkieaaGreatDoor
set_option linter.unusedSimpArgs false
set_option linter.unusedVariables false
open Go.RowKit
open Go.Lib hiding intOf
def ParseE (r : List Rul × Int × Int) (w : World) (e : Ending) (w' : World) : Prop := ∃ v, e = .returned (.tuple #[v, .int .i64 r.2.1, .int .i64 r.2.2]) ∧ OwnsR w.heap.size r.1 v w' ∧ Below w.heap.size w w'
set_option maxRecDepth 100000 in
set_option maxHeartbeats 4000000 in
theorem rulesParse_any (s : List UInt8) (w : World) (hs : s.length ≤ 67108864) (hV : RuV w) :
    Calls Tryz.prog 19 #[.string (bs s)] w (ParseE (parseR s) w) := by
  obtain ⟨R, hR⟩ : ∃ R, parseR s = R := ⟨_, rfl⟩
  rw [hR]
  unfold parseR at hR
  have HR := Lib.hid hR
  have HV := Lib.hid hV
  clear hR hV
  go_enter Tryz.func19, Tryz.ntmps19
  go_wp2_with fail
  go_loopw [0, 5] (fun s0 s5 wr => ∃ (r : List UInt8) (acc : List Rul) (f : Nat), s0 = .string (bs r) ∧ acc.length ≤ 32 ∧ r.length ≤ s.length ∧ r.length < f ∧ Hid (parseGo f acc r = R) ∧ Hid (OwnsR w.heap.size acc s5 wr) ∧ Hid (Below w.heap.size w wr)) (fun s0 _ _ => strN s0)
  case atStart => exact ⟨s, [], s.length + 1, rfl, by simp, Nat.le_refl _, by omega, HR, Lib.hid (OwnsR.nil _ _), Lib.hid (Below.refl _ _)⟩
  case round =>
    obtain ⟨r, acc, f, rfl, hacc, hrs, hrf, HG, HO, HB⟩ := hrel
    obtain ⟨g, rfl⟩ : ∃ g, f = g + 1 := ⟨f - 1, by omega⟩
    obtain ⟨p, c, rfl, hc, _⟩ := HO.out.toRV
    have hg := HG.out
    unfold parseGo at hg
    clear HG
    cases r with
    | nil =>
      rw [if_pos rfl] at hg
      subst hg
      have n0 : ((bs ([] : List UInt8)).toList == []) = true := by rw [Lib.toList_data, bs_data]; rfl
      have n1 : ((bs ([] : List UInt8)).toList != []) = false := by rw [bne, n0]; rfl
      go_wp2_with fail
      go_ret3
      exact ⟨_, rfl, HO.out, HB.out⟩
    | cons d t =>
      have hne : d :: t ≠ [] := List.cons_ne_nil _ _
      rw [if_neg hne] at hg
      have n0 : ((bs (d :: t)).toList == []) = false := by rw [Lib.toList_data, bs_data]; rfl
      have n1 : ((bs (d :: t)).toList != []) = true := by rw [bne, n0]; rfl
      obtain ⟨q, hq⟩ : ∃ q, d :: t = q := ⟨_, rfl⟩
      rw [hq] at hg n0 n1 hrs hrf hne ⊢
      clear hq
      by_cases h32 : acc.length = 32
      · rw [if_pos h32] at hg
        subst hg
        have d1 : ((acc.length : Int) == 32) = true := by rw [beq_iff_eq]; omega
        go_wp2_with fail
        go_ret3
        exact ⟨_, rfl, OwnsR.nil _ _, HB.out⟩
      · rw [if_neg h32] at hg
        have d1 : ((acc.length : Int) == 32) = false := by rw [beq_eq_false_iff_ne]; omega
        have hcl : (cut q [10]).1.length ≤ q.length ∧ ((cut q [10]).2.2 = true → (cut q [10]).2.1.length < q.length) := by
          rcases cut_byte q 10 with ⟨_, hc⟩ | ⟨a, r, hsr, _, hc⟩
          · rw [hc]; exact ⟨Nat.le_refl _, fun h => by cases h⟩
          · rw [hc]
            have hl : q.length = a.length + (r.length + 1) := by rw [hsr, List.length_append, List.length_cons]
            simp only []
            exact ⟨by omega, fun _ => by omega⟩
        have CC : Hid (∀ w, RuV w → Calls Tryz.prog 34 #[.string (bs q), .string ⟨#[10]⟩] w fun e w' => e = .returned (.tuple #[.string (bs (cut q [10]).1), .string (bs (cut q [10]).2.1), .bool (cut q [10]).2.2]) ∧ Below w.heap.size w w') := Lib.hid (fun w h => cut_at q 10 _ _ _ rfl (by omega) w h.m)
        obtain ⟨C, hC⟩ : ∃ C, cut q [10] = C := ⟨_, rfl⟩
        obtain ⟨a, b, fl⟩ := C
        rw [hC] at hg CC hcl
        simp only [] at hg CC hcl
        have CR : Hid (∀ w, RuV w → Calls Tryz.prog 35 #[.string (bs a)] w (RuleE (ruleR a) w)) := Lib.hid (fun w h => rule_any a w (by omega) h)
        obtain ⟨X, hX⟩ : ∃ X, ruleR a = X := ⟨_, rfl⟩
        obtain ⟨x, is⟩ := X
        rw [hX] at hg CR
        simp only [] at hg
        have hal := hcl.2
        clear hC hX hcl
        cases is with
        | false =>
          rw [Bool.false_and, if_pos rfl] at hg
          have HF := Lib.hid hg
          clear hg hal
          go_wp2_with fail
          with_reducible refine (CC.out _ (HV.out.keep HB.out)).mono ?_
          rintro e w1 ⟨rfl, hb1⟩
          have HB1 := Lib.hid (below_of_new HB.out hb1)
          clear hb1
          go_wp2_with fail
          with_reducible refine (CR.out _ (HV.out.keep HB1.out)).mono ?_
          rintro e w2 ⟨pv, rfl, ho, hb2⟩
          have HB2 := Lib.hid (below_of_new HB1.out hb2)
          obtain ⟨pp, pc, rfl, _⟩ := ho.toSV
          clear hb2 ho
          go_wp2_with fail
          go_ret3
          rw [← HF.out]
          exact ⟨_, rfl, OwnsR.nil _ _, HB2.out.trans ((below_alloc1 w2 _).mono HB2.out.size)⟩
        | true =>
          cases fl with
          | false =>
            rw [Bool.and_false, if_pos rfl] at hg
            have HF := Lib.hid hg
            clear hg hal
            go_wp2_with fail
            with_reducible refine (CC.out _ (HV.out.keep HB.out)).mono ?_
            rintro e w1 ⟨rfl, hb1⟩
            have HB1 := Lib.hid (below_of_new HB.out hb1)
            clear hb1
            go_wp2_with fail
            with_reducible refine (CR.out _ (HV.out.keep HB1.out)).mono ?_
            rintro e w2 ⟨pv, rfl, ho, hb2⟩
            have HB2 := Lib.hid (below_of_new HB1.out hb2)
            obtain ⟨pp, pc, rfl, _⟩ := ho.toSV
            clear hb2 ho
            go_wp2_with fail
            go_ret3
            rw [← HF.out]
            exact ⟨_, rfl, OwnsR.nil _ _, HB2.out.trans ((below_alloc1 w2 _).mono HB2.out.size)⟩
          | true =>
            rw [Bool.and_self, if_neg (by decide)] at hg
            have HG2 := Lib.hid hg
            have hbl : b.length < q.length := hal rfl
            have qz : (bs q).size = q.length := bs_size q
            have bz : (bs b).size = b.length := bs_size b
            clear hg hal
            go_wp2_with fail
            with_reducible refine (CC.out _ (HV.out.keep HB.out)).mono ?_
            rintro e w1 ⟨rfl, hb1⟩
            have HO1 := Lib.hid (HO.out.keep hb1)
            have HB1 := Lib.hid (below_of_new HB.out hb1)
            clear hb1
            go_wp2_with fail
            with_reducible refine (CR.out _ (HV.out.keep HB1.out)).mono ?_
            rintro e w2 ⟨pv, rfl, ho, hb2⟩
            have HO2 := Lib.hid (HO1.out.keep hb2)
            have HB2 := Lib.hid (below_of_new HB1.out hb2)
            have ho0 : OwnsS 0 x.1 pv w2 := World.ownsRow.mono ho (Nat.zero_le _)
            have ba := below_alloc1 w2 (.cells #[pv, .string (bs x.2)] 38)
            have HP := Lib.hid (ho0.keep ba)
            have HO3 := Lib.hid (HO2.out.keep ba)
            have HB3 := Lib.hid (HB2.out.trans (ba.mono HB2.out.size))
            obtain ⟨pp, pc, rfl, _⟩ := ho0.toSV
            clear hb2 ho ho0 ba
            have hz : w.heap.size ≤ (w2.alloc (.cells #[.slice pp x.1.length pc, .string (bs x.2)] 38)).heap.size := HB3.out.size
            have hsz2 : (w2.alloc (.cells #[.slice pp x.1.length pc, .string (bs x.2)] 38)).heap.size = w2.heap.size + 1 := by simp
            go_wp2_with (at_builtin; go_must (refine wpList_rule (by rfl) (.tmp 35) (.tmp 37) rfl w.heap.size (w2.alloc (.cells #[.slice pp x.1.length pc, .string (bs x.2)] 38)) (.slice p acc.length c) acc x (.slice pp x.1.length pc) rfl HO3.out HP.out (by rw [hsz2]; rfl) (by omega) hz ?_); intro u1 w4 o1 hb4)
            have HO4 := Lib.hid o1
            have HB4 := Lib.hid (HB3.out.trans hb4)
            clear o1 hb4 hz hsz2
            go_roundw
            case rel => exact ⟨b, acc ++ [x], g, rfl, by rw [List.length_append]; simp; omega, by omega, by omega, HG2, HO4, HB4⟩
            case measure => show (bs b).size < (bs q).size; omega
theorem prR_take {l : List Rul} {i : Nat} {x : Rul} (hx : l[i]? = some x) : prR (l.take (i + 1)) = prR (l.take i) ++ (lineR x ++ [10]) := by
  unfold prR
  rw [List.take_add_one, hx, List.flatMap_append]
  simp
theorem prR_take_le (l : List Rul) (i : Nat) : (prR (l.take i)).length ≤ (prR l).length := by
  have : prR l = prR (l.take i) ++ prR (l.drop i) := by unfold prR; rw [← List.flatMap_append, List.take_append_drop]
  rw [this, List.length_append]
  omega
theorem cat10 (a : List UInt8) : bs a ++ (⟨#[10]⟩ : ByteArray) = bs (a ++ [10]) := by
  have h1 : (⟨#[10]⟩ : ByteArray) = bs [10] := rfl
  rw [h1, bs_append]
set_option maxRecDepth 100000 in
set_option maxHeartbeats 4000000 in
theorem rulesPrint_any (v : Value) (l : List Rul) (w : World) (hv : RV w v l) (hl : RB l) (hpr : rightR l = true → (prR l).length ≤ 67108864) (hV : RuV w) :
    Calls Tryz.prog 16 #[v] w fun e w' => e = TextE (printR l) ∧ Below w.heap.size w w' := by
  have C := rulesRight_any v l w hv hl hV.t
  have HC := Lib.hid C
  have hlen := hl.1
  clear C
  unfold printR
  cases hr : rightR l with
  | false =>
    rw [hr] at HC
    obtain ⟨pp, c, rfl, hc, hlies⟩ := hv
    clear hlies hV hr hpr hl
    go_enter Tryz.func16, Tryz.ntmps16
    go_wp2_with fail
    refine HC.out.mono ?_
    rintro e w1 ⟨rfl, hb1⟩
    go_wp2_with fail
    go_ret2
    exact ⟨rfl, hb1⟩
  | true =>
    rw [hr] at HC
    rw [if_pos rfl]
    have hpl := hpr hr
    clear hr hpr
    obtain ⟨pp, c, rfl, hc, hlies⟩ := hv
    have HP := Lib.hid hlies
    have HV := Lib.hid hV
    have HL := Lib.hid hl
    clear hlies hV hl
    go_enter Tryz.func16, Tryz.ntmps16
    go_wp2_with fail
    refine HC.out.mono ?_
    rintro e w1 ⟨rfl, hb1⟩
    have HB1 := Lib.hid hb1
    clear hb1
    go_wp2_with fail
    go_loopw [12] (fun s12 wr => ∃ i : Nat, s12 = .int .i64 i ∧ i ≤ l.length ∧ Hid (Bld w1.heap.size w1.heap.size (prR (l.take i)) wr) ∧ Hid (Below w1.heap.size w1 wr)) (fun s12 _ => l.length - (RowKit.intOf s12).toNat)
    case atStart => exact ⟨0, rfl, by omega, Lib.hid (Bld.new w1), Lib.hid (below_alloc1 w1 _)⟩
    case round =>
      obtain ⟨i, rfl, hi, HBd, HW⟩ := hrel
      have htl := prR_take_le l i
      have HB := Lib.hid (below_of_new HB1.out HW.out)
      by_cases hlt : i < l.length
      · have hiz : (i : Int) < (l.length : Int) := by omega
        obtain ⟨x, hx⟩ : ∃ x, l[i]? = some x := ⟨_, List.getElem?_eq_getElem hlt⟩
        obtain ⟨gx, ox, pv, rfl, hgx, cx0, cx1, hsv⟩ := (HP.out.keep HB.out).at_ hx
        have hbx := HL.out.2 x (List.mem_of_getElem? hx)
        have hX := prR_take hx
        have hll : (prR (l.take i)).length + ((lineR x).length + 1) ≤ 67108864 := by
          have h1 := prR_take_le l (i + 1)
          rw [hX] at h1
          simp only [List.length_append, List.length_cons, List.length_nil] at h1
          omega
        obtain ⟨xp, xc, rfl, hxc, hxl⟩ := hsv
        have hsv : SV wr (.slice xp x.1.length xc) x.1 := ⟨xp, xc, rfl, hxc, hxl⟩
        have ba := below_alloc1 wr (.cells #[.slice xp x.1.length xc, .string (bs x.2)] 38)
        have CL := Lib.hid (line_any (.slice xp x.1.length xc) x.1 x.2 _ (hsv.keep ba) hbx.1 hbx.2 (HV.out.keep (HB.out.trans (ba.mono HB.out.size))))
        have hq : lineR (x.1, x.2) = lineR x := rfl
        rw [hq] at CL
        have hz : (bs (lineR x)).size = (lineR x).length := bs_size _
        have g1 : ¬ 9223372036854775807 < (bs (lineR x)).size + (⟨#[10]⟩ : ByteArray).size := by rw [hz]; show ¬ _ < _ + 1; omega
        have CW : Hid (∀ w2, Bld w1.heap.size w1.heap.size (prR (l.take i)) w2 → w1.heap.size ≤ w2.heap.size → Calls Tryz.prog 29 #[.pointer (some ⟨w1.heap.size, 0, none⟩), .string (bs (lineR x) ++ ⟨#[10]⟩)] w2 fun e w' => (∃ n : Int, e = .returned (.tuple #[.int .i64 n, .nilIface])) ∧ Bld w1.heap.size w1.heap.size (prR (l.take (i + 1))) w' ∧ Below w1.heap.size w2 w') := Lib.hid (fun w2 h1 h2 => by
          rw [cat10, hX]
          exact (writeString_any w1.heap.size w1.heap.size (prR (l.take i)) (lineR x ++ [10]) w2 h1 (by simp; omega) h2).mono fun e w' ⟨a, b, c, _⟩ => ⟨⟨_, a⟩, b, c⟩)
        have HBa := Lib.hid (HBd.out.keep ba)
        have HWa := Lib.hid (HW.out.trans (ba.mono HW.out.size))
        obtain ⟨L, hL⟩ : ∃ L, lineR x = L := ⟨_, rfl⟩
        rw [hL] at CL CW g1
        clear hx hbx hX hsv hxl ba hq hz hL
        go_wp2_with fail
        refine CL.out.mono ?_
        rintro e w2 ⟨rfl, b2⟩
        have HBd2 := Lib.hid (HBa.out.keep b2)
        have HW2 := Lib.hid (HWa.out.trans (b2.mono HWa.out.size))
        clear b2
        go_wp2_with fail
        with_reducible refine (CW.out _ HBd2.out HW2.out.size).mono ?_
        rintro e w3 ⟨⟨n, rfl⟩, h3, b3⟩
        have HBd3 := Lib.hid h3
        have HW3 := Lib.hid (HW2.out.trans b3)
        clear h3 b3
        go_wp2_with fail
        go_roundw
        case rel => exact ⟨i + 1, by go_num, by omega, HBd3, HW3⟩
        case measure => simp [RowKit.intOf]; omega
      · have hiz : ¬ (i : Int) < (l.length : Int) := by omega
        have HF : Hid (prR (l.take i) = prR l) := Lib.hid (by rw [List.take_of_length_le (by omega)])
        go_wp2_with fail
        refine (Tryz.Builder_String_any_k w1.heap.size w1.heap.size (prR (l.take i)) _ HBd.out HW.out.size).mono ?_
        rintro e w4 ⟨rfl, _, b4, _⟩
        go_wp2_with fail
        go_ret2
        exact ⟨by rw [HF.out]; rfl, below_of_new HB1.out (HW.out.trans b4)⟩
end Go.Proofs.YtfklmopnifkieaaGreatDoor
/-! The walk of scarflaw18.small. -/
namespace Go.Proofs.YtfklmopnifkieaaGreatDoor
set_option linter.unusedSimpArgs false
set_option linter.unusedVariables false
open Go.RowKit
open Go.Lib hiding intOf
theorem SV.lit (w : World) (l : List Stp) (cs : Array Value) (n : Nat) (hn : n = l.length) (hcs : cs.toList = strCells l) (hl : l.length ≤ 1048576) : SV (w.alloc (.cells cs 9)) (.slice (some ⟨w.heap.size, 0, none⟩) n n) l := by
  subst hn
  exact OwnsS.toSV (OwnsS.new w l cs hcs hl)
theorem RV.lit (w : World) (pv : Value) (x : Rul) (hp : SV w pv x.1) : RV (w.alloc (.cells #[pv, .string (bs x.2)] 38)) (.slice (some ⟨w.heap.size, 0, none⟩) 1 1) [x] := by
  refine ⟨_, 1, rfl, Nat.le_refl _, .inr ⟨w.heap.size, 0, rfl, by simp, fun j y hy => ?_⟩⟩
  cases j with
  | zero =>
    obtain rfl : x = y := by simpa using hy
    exact ⟨pv, cell_new w _ _ 0 _ rfl, cell_new w _ _ 1 _ rfl, hp.keep (below_alloc1 w _)⟩
  | succ j => simp at hy
theorem sm1 : mMatch [[97], [42], [98]] [[97], [49], [98]] = true := by decide +kernel
theorem sm2 : mMatch [[97], [42, 42]] [[97]] = true := by decide +kernel
theorem sm3 : mMatch [[42]] [] = false := by decide +kernel
def smR : Rul := ([[97], [42]], [105, 100])
def smT : List UInt8 := [34, 47, 97, 47, 42, 34, 32, 34, 105, 100, 34, 10]
theorem sm4 : rightR [smR] = true ∧ prR [smR] = smT := by decide +kernel
theorem sm5 : printR [smR] = (smT, 0) := by unfold printR; rw [if_pos sm4.1, sm4.2]
theorem sm6 : parseR smT = ([smR], 1, 0) := by
  have := parse_of_print [smR] sm4.1
  rw [sm5] at this
  exact this
theorem sm7 : findR [smR] [[97], [48]] = ([105, 100], true) := by decide +kernel
theorem smB : RB [smR] := ⟨by decide, fun x hx => by rw [List.mem_singleton.1 hx]; exact ⟨by unfold PB; decide +kernel, by decide⟩⟩
set_option maxRecDepth 100000 in
set_option maxHeartbeats 4000000 in
theorem rsmall_any (w : World) (hV : RuV w) :
    Calls Tryz.prog 7 #[] w fun e w' => e = .returned (.bool true) ∧ Below w.heap.size w w' := by
  have M1 : Hid (∀ u v w, SV w u [[97], [42], [98]] → SV w v [[97], [49], [98]] → Calls Tryz.prog 14 #[u, v] w fun e w' => e = .returned (.bool true) ∧ Below w.heap.size w w') := Lib.hid (fun u v w h1 h2 => by
    have := match_any u v _ _ w h1 h2 (by decide) (by decide)
    rw [sm1] at this; exact this)
  have M2 : Hid (∀ u v w, SV w u [[97], [42, 42]] → SV w v [[97]] → Calls Tryz.prog 14 #[u, v] w fun e w' => e = .returned (.bool true) ∧ Below w.heap.size w w') := Lib.hid (fun u v w h1 h2 => by
    have := match_any u v _ _ w h1 h2 (by decide) (by decide)
    rw [sm2] at this; exact this)
  have M3 : Hid (∀ u v w, SV w u [[42]] → SV w v [] → Calls Tryz.prog 14 #[u, v] w fun e w' => e = .returned (.bool false) ∧ Below w.heap.size w w') := Lib.hid (fun u v w h1 h2 => by
    have := match_any u v _ _ w h1 h2 (by decide) (by decide)
    rw [sm3] at this; exact this)
  have P4 : Hid (∀ u w, RuV w → RV w u [smR] → Calls Tryz.prog 16 #[u] w fun e w' => e = .returned (.tuple #[.string ⟨#[34, 47, 97, 47, 42, 34, 32, 34, 105, 100, 34, 10]⟩, .int .i64 0]) ∧ Below w.heap.size w w') := Lib.hid (fun u w h1 h2 => by
    have := rulesPrint_any u _ w h2 smB (fun _ => by rw [sm4.2]; decide) h1
    rw [sm5] at this; exact this)
  have P5 : Hid (∀ w, RuV w → Calls Tryz.prog 19 #[.string ⟨#[34, 47, 97, 47, 42, 34, 32, 34, 105, 100, 34, 10]⟩] w (ParseE ([smR], 1, 0) w)) := Lib.hid (fun w h1 => by
    have := rulesParse_any smT w (by decide) h1
    rw [sm6] at this; exact this)
  have P6 : Hid (∀ u v w, RV w u [smR] → SV w v [[97], [48]] → Calls Tryz.prog 10 #[u, v] w fun e w' => e = .returned (.tuple #[.string ⟨#[105, 100]⟩, .bool true]) ∧ Below w.heap.size w w') := Lib.hid (fun u v w h1 h2 => by
    have := rulesFind_any u v _ _ w h1 h2 smB (by decide)
    rw [sm7] at this; exact this)
  have HV := Lib.hid hV; clear hV
  go_enter Tryz.func7, Tryz.ntmps7
  have ba1 := below_alloc1 w (.cells #[.string ⟨#[97]⟩, .string ⟨#[42]⟩, .string ⟨#[98]⟩] 9)
  have hx1 := (SV.lit w [[97], [42], [98]] #[.string ⟨#[97]⟩, .string ⟨#[42]⟩, .string ⟨#[98]⟩] 3 rfl rfl (by decide)).keep (below_alloc1 _ (.cells #[.string ⟨#[97]⟩, .string ⟨#[49]⟩, .string ⟨#[98]⟩] 9))
  have hx2 := SV.lit (w.alloc (.cells #[.string ⟨#[97]⟩, .string ⟨#[42]⟩, .string ⟨#[98]⟩] 9)) [[97], [49], [98]] #[.string ⟨#[97]⟩, .string ⟨#[49]⟩, .string ⟨#[98]⟩] 3 rfl rfl (by decide)
  rw [World.size_alloc] at hx2
  have hb0 := ba1.trans ((below_alloc1 _ (.cells #[.string ⟨#[97]⟩, .string ⟨#[49]⟩, .string ⟨#[98]⟩] 9)).mono (by simp))
  have HX := Lib.hid (And.intro hx1 (And.intro hx2 hb0))
  clear ba1 hx1 hx2 hb0
  go_wp2_with fail
  with_reducible refine (M1.out _ _ _ HX.out.1 HX.out.2.1).mono ?_
  rintro e w1 ⟨rfl, hb1⟩
  have HB1 := Lib.hid (below_of_new (Below.refl w.heap.size w) (HX.out.2.2.trans (hb1.mono (by simp; omega))))
  clear hb1 HX
  have hx1 := (SV.lit w1 [[97], [42, 42]] #[.string ⟨#[97]⟩, .string ⟨#[42, 42]⟩] 2 rfl rfl (by decide)).keep (below_alloc1 _ (.cells #[.string ⟨#[97]⟩] 9))
  have hx2 := SV.lit (w1.alloc (.cells #[.string ⟨#[97]⟩, .string ⟨#[42, 42]⟩] 9)) [[97]] #[.string ⟨#[97]⟩] 1 rfl rfl (by decide)
  rw [World.size_alloc] at hx2
  have hb0 := (below_alloc1 w1 (.cells #[.string ⟨#[97]⟩, .string ⟨#[42, 42]⟩] 9)).trans ((below_alloc1 _ (.cells #[.string ⟨#[97]⟩] 9)).mono (by simp))
  have HX := Lib.hid (And.intro hx1 (And.intro hx2 hb0))
  clear hx1 hx2 hb0
  go_wp2_with fail
  with_reducible refine (M2.out _ _ _ HX.out.1 HX.out.2.1).mono ?_
  rintro e w2 ⟨rfl, hb2⟩
  have HB2 := Lib.hid (below_of_new HB1.out (HX.out.2.2.trans (hb2.mono (by simp; omega))))
  clear hb2 HX
  have HX := Lib.hid (SV.lit w2 [[42]] #[.string ⟨#[42]⟩] 1 rfl rfl (by decide))
  go_wp2_with fail
  with_reducible refine (M3.out _ _ _ HX.out (SV.nil _)).mono ?_
  rintro e w3 ⟨rfl, hb3⟩
  have HB3 := Lib.hid (below_of_new HB2.out ((below_alloc1 w2 _).trans (hb3.mono (by simp))))
  clear hb3 HX
  have hx1 := SV.lit w3 [[97], [42]] #[.string ⟨#[97]⟩, .string ⟨#[42]⟩] 2 rfl rfl (by decide)
  have hx2 : RV ((w3.alloc (.cells #[.string ⟨#[97]⟩, .string ⟨#[42]⟩] 9)).alloc (.cells #[.slice (some ⟨w3.heap.size, 0, none⟩) 2 2, .string ⟨#[105, 100]⟩] 38)) (.slice (some ⟨(w3.alloc (.cells #[.string ⟨#[97]⟩, .string ⟨#[42]⟩] 9)).heap.size, 0, none⟩) 1 1) [smR] := RV.lit (w3.alloc (.cells #[.string ⟨#[97]⟩, .string ⟨#[42]⟩] 9)) (.slice (some ⟨w3.heap.size, 0, none⟩) 2 2) smR hx1
  rw [World.size_alloc] at hx2
  have hb0 := (below_alloc1 w3 (.cells #[.string ⟨#[97]⟩, .string ⟨#[42]⟩] 9)).trans ((below_alloc1 _ (.cells #[.slice (some ⟨w3.heap.size, 0, none⟩) 2 2, .string ⟨#[105, 100]⟩] 38)).mono (by simp))
  have HX := Lib.hid (And.intro hx2 hb0)
  clear hx1 hx2 hb0
  go_wp2_with fail
  with_reducible refine (P4.out _ _ (HV.out.keep (below_of_new HB3.out HX.out.2)) HX.out.1).mono ?_
  rintro e w4 ⟨rfl, hb4⟩
  have HB4 := Lib.hid (below_of_new HB3.out (HX.out.2.trans (hb4.mono (by simp; omega))))
  clear hb4 HX
  go_wp2_with fail
  with_reducible refine (P5.out _ (HV.out.keep HB4.out)).mono ?_
  rintro e w5 ⟨lv, rfl, ho, hb5⟩
  have HB5 := Lib.hid (below_of_new HB4.out hb5)
  have hx1 := ho.toRV.keep (below_alloc1 w5 (.cells #[.string ⟨#[97]⟩, .string ⟨#[48]⟩] 9))
  have hx2 := SV.lit w5 [[97], [48]] #[.string ⟨#[97]⟩, .string ⟨#[48]⟩] 2 rfl rfl (by decide)
  have HX := Lib.hid (And.intro hx1 hx2)
  clear hb5 ho hx1 hx2
  go_wp2_with fail
  with_reducible refine (P6.out _ _ _ HX.out.1 HX.out.2).mono ?_
  rintro e w6 ⟨rfl, hb6⟩
  have HB6 := Lib.hid (below_of_new HB5.out ((below_alloc1 w5 _).trans (hb6.mono (by simp))))
  clear hb6 HX
  go_wp2_with fail
  go_ret
  exact ⟨rfl, HB6.out⟩
end Go.Proofs.YtfklmopnifkieaaGreatDoor
