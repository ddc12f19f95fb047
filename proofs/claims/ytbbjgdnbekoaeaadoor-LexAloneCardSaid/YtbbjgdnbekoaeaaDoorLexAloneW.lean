import Derived.Test.YtbbjgdnbekoaeaaDoorLexS
import Derived.BigQuiet
import Derived.Deep.QuietTactic
/-! The walk of the law LexAlone. -/
namespace Go.Proofs.YtbbjgdnbekoaeaaDoor
set_option linter.unusedSimpArgs false
set_option linter.unusedVariables false
open Go.RowKit
open Go.Lib hiding intOf

/-- The text of a token, alone, is that token. -/
theorem toksL_alone (l : List UInt8) (hl : l.length ≤ 65536) (he : (toksL l).2.2 = 0) (k : Nat) (t : Tok) (ht : (toksL l).1[k]? = some t) :
    t.sf ≤ t.st ∧ t.st ≤ l.length ∧ toksL ((l.drop t.sf).take (t.st - t.sf)) = ([⟨t.kind, 0, t.st - t.sf⟩], ((t.st - t.sf : Nat) : Int), 0) ∧ ((l.drop t.sf).take (t.st - t.sf)).length = t.st - t.sf := by
  have hg : (toksL l).1 = (toksGo l.length l 0).1 := by
    unfold toksL at he ⊢
    rw [if_neg (by omega)] at he ⊢
    cases ho : (toksGo l.length l 0).2 with
    | none => rfl
    | some x =>
      obtain ⟨p, e⟩ := x
      rw [ho] at he
      exact absurd he (toks_err l.length l 0 p e (Nat.le_refl _) ho).2.2
  rw [hg] at ht
  obtain ⟨h1, h2, h3, h4⟩ := toks_each l.length l l 0 (Nat.le_refl _) (by rw [List.drop_zero]) t (List.mem_of_getElem? ht)
  have hok := tokR_ok _ h4
  have h5 := hok.2 h1
  have h6 := hok.1
  rw [List.length_drop] at h6
  have hd : t.st - t.sf = (tokR (l.drop t.sf)).2.1 := by omega
  have hul : ((l.drop t.sf).take (tokR (l.drop t.sf)).2.1).length = (tokR (l.drop t.sf)).2.1 := by rw [List.length_take, List.length_drop]; omega
  rw [hd]
  refine ⟨by omega, by omega, ?_, hul⟩
  have ha := toks_alone (l.drop t.sf) h4 h1 ((l.drop t.sf).take (tokR (l.drop t.sf)).2.1).length 0 (by rw [hul]; omega)
  unfold toksL
  rw [if_neg (by rw [hul]; omega), ha, hul, Nat.zero_add, h2]
set_option maxRecDepth 100000 in
set_option maxHeartbeats 4000000 in
theorem lexAlone_any (s : ByteArray) (w : World) (hs : s.size ≤ 140737488351232) (hV : SVar w) (hT : Tabs w) :
    Calls Tryd.prog 5 #[.string s] w fun e w' => e = .returned (.bool true) ∧ Below w.heap.size w w' := by
  have C0 := Lib.hid (fun w hV hT => lsmall_any w hV hT)
  obtain ⟨l, rfl⟩ : ∃ l, s = bs l := ⟨s.data.toList, (bs_of s).symm⟩
  have sl := bs_size l
  have hone := fun hl he k t ht => toksL_alone l hl he k t ht
  obtain ⟨R, hR⟩ : ∃ R, toksL l = R := ⟨_, rfl⟩
  have CT := Lib.hid (fun w hV hT => tokens_at l R hR w (by omega) hV hT)
  have hlen := toks_len l
  rw [hR] at hlen hone
  clear hR
  obtain ⟨ts, n, er⟩ := R
  simp only [] at hlen hone
  have HV := Lib.hid hV; have HT := Lib.hid hT; clear hV hT
  have HO := Lib.hid hone; clear hone
  go_enter Tryd.func5, Tryd.ntmps5
  go_wp2_with fail
  with_reducible refine (C0.out _ HV.out HT.out).mono ?_
  rintro e w1 ⟨rfl, hb⟩
  have HB1 := Lib.hid hb; clear hb
  go_wp2_with fail
  with_reducible refine (CT.out _ (HV.out.keep HB1.out) (HT.out.keep HB1.out)).mono ?_
  rintro e w2 ⟨v, rfl, hv, hb⟩
  dsimp only at hv ⊢
  have HB2 := Lib.hid (below_of_new HB1.out hb); clear hb HB1 C0 CT
  by_cases he : er = 0
  · subst he
    by_cases hl : l.length ≤ 1024
    · have dl : decide (1024 < (l.length : Int)) = false := decide_eq_false (by omega)
      have HO2 := Lib.hid (HO.out (by omega) rfl)
      have HL := Lib.hid hl
      rcases hv with ⟨rfl, rfl⟩ | ⟨g, c, rfl, hg, ha⟩
      · clear hl HO
        go_wp2_with fail
        refine wp_loop_rounds 1 ?_
        rw [rounds_succ]
        go_wp2_with fail
        go_ret
        exact ⟨rfl, HB2.out⟩
      · have HI : Hid (Below w.heap.size w w2 ∧ TokAt w2 g ts ∧ g < w2.heap.size) := Lib.hid ⟨HB2.out, ha, hg⟩
        clear hl HO ha hg HB2
        go_wp2_with fail
        go_loopw [7] (fun s7 wr => ∃ (k : Nat), s7 = .int .i64 k ∧ k ≤ ts.length ∧ Hid (Below w.heap.size w wr ∧ TokAt wr g ts ∧ g < wr.heap.size)) (fun s7 _ => ts.length - (RowKit.intOf s7).toNat)
        case atStart => exact ⟨0, rfl, by omega, HI.out⟩
        case round =>
          obtain ⟨k, rfl, hk, HI⟩ := hrel
          by_cases hlt : k < ts.length
          · obtain ⟨t, ht⟩ : ∃ t, ts[k]? = some t := ⟨_, List.getElem?_eq_getElem hlt⟩
            obtain ⟨q1, q2, q3, q4⟩ := HO2.out k t ht
            obtain ⟨c0, c1, c2⟩ := HI.out.2.1 k t ht
            obtain ⟨u, hu⟩ : ∃ u, (l.drop t.sf).take (t.st - t.sf) = u := ⟨_, rfl⟩
            rw [hu] at q3 q4
            have su := bs_size u
            have CX : Hid (∀ w, Calls Tryd.prog 12 #[.string (bs l), .agg #[.int .i64 t.kind, .int .i64 t.sf, .int .i64 t.st]] w fun e w' => e = .returned (.tuple #[.string (bs u), .bool true]) ∧ Below w.heap.size w w') := Lib.hid (fun w => by
              have := ltext_any l t.kind t.sf t.st w (by omega)
              have e : spanL l t.sf t.st = (u, true) := by unfold spanL; rw [if_neg (by omega), Int.toNat_natCast, Int.toNat_natCast, hu]
              rw [e] at this
              exact this)
            have CU := Lib.hid (fun w hV hT => tokens_at u _ q3 w (by omega) hV hT)
            rw [← q4] at CU
            obtain ⟨kd, hkd⟩ : ∃ kd : Int, (t.kind : Int) = kd := ⟨_, rfl⟩
            obtain ⟨a, hae⟩ : ∃ a : Int, (t.sf : Int) = a := ⟨_, rfl⟩
            obtain ⟨b, hbe⟩ : ∃ b : Int, (t.st : Int) = b := ⟨_, rfl⟩
            rw [hkd] at c0 CX
            rw [hae] at c1 CX
            rw [hbe] at c2 CX
            have hub : u.length ≤ 1024 := by have := HL.out; omega
            have HK := Lib.hid (And.intro hkd ht)
            clear q1 q2 q3 q4 hu hkd hae hbe ht
            go_wp2_with fail
            with_reducible refine (CX.out _).mono ?_
            rintro e w3 ⟨rfl, hb⟩
            have HI3 : Hid (Below w.heap.size w w3 ∧ TokAt w3 g ts ∧ g < w3.heap.size) := Lib.hid ⟨below_of_new HI.out.1 hb, HI.out.2.1.keep hb HI.out.2.2, Nat.lt_of_lt_of_le HI.out.2.2 hb.size⟩
            clear hb c0 c1 c2
            go_wp2_with fail
            with_reducible refine (CU.out _ (HV.out.keep HI3.out.1) (HT.out.keep HI3.out.1)).mono ?_
            rintro e w4 ⟨v4, rfl, hv4, hb⟩
            dsimp only at hv4 ⊢
            have HI4 : Hid (Below w.heap.size w w4 ∧ TokAt w4 g ts ∧ g < w4.heap.size) := Lib.hid ⟨below_of_new HI3.out.1 hb, HI3.out.2.1.keep hb HI3.out.2.2, Nat.lt_of_lt_of_le HI3.out.2.2 hb.size⟩
            clear hb HI3 HI
            rcases hv4 with ⟨h, _⟩ | ⟨g4, c4, rfl, hg4, ha4⟩
            · cases h
            have m0 : w4.cell? ⟨g4, 0, none⟩ = some (.int .i64 kd) := by rw [← HK.out.1]; exact (ha4 0 _ rfl).1
            have m1 : w4.cell? ⟨g4, 1, none⟩ = some (.int .i64 0) := (ha4 0 _ rfl).2.1
            have m2 : w4.cell? ⟨g4, 2, none⟩ = some (.int .i64 (u.length : Int)) := (ha4 0 _ rfl).2.2
            have e0 : w4.cell? ⟨g, k * 3, none⟩ = some (.int .i64 kd) := by rw [← HK.out.1]; exact (HI4.out.2.1 k t HK.out.2).1
            clear ha4 hg4
            go_wp2_with fail
            go_quiet (fail)
            go_wp2_with fail
            go_roundw
            case rel => exact ⟨k + 1, by go_num, by omega, ⟨below_drewN HI4.out.1 _, fun j t hj => HI4.out.2.1 j t hj, HI4.out.2.2⟩⟩
            case measure => simp [RowKit.intOf]; omega
          · have hke : k = ts.length := by omega
            have HK := Lib.hid hke
            clear hke
            go_wp2_with fail
            go_ret
            exact ⟨rfl, HI.out.1⟩
    · have dl : decide (1024 < (l.length : Int)) = true := decide_eq_true (by omega)
      clear hl
      rcases hv with ⟨rfl, rfl⟩ | ⟨g, c, rfl, hg, ha⟩
      all_goals
        go_wp2_with fail
        go_ret
        exact ⟨rfl, HB2.out⟩
  · have te : (er != 0) = true := bne_iff_ne.2 he
    clear he
    rcases hv with ⟨rfl, rfl⟩ | ⟨g, c, rfl, _, _⟩
    all_goals
      go_wp2_with fail
      go_ret
      exact ⟨rfl, HB2.out⟩
end Go.Proofs.YtbbjgdnbekoaeaaDoor
