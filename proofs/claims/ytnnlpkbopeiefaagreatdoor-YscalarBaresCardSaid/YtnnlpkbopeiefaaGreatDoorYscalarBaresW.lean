import Derived.Test.YtnnlpkbopeiefaaGreatDoorYsS
import Derived.Test.YtnnlpkbopeiefaaGreatDoorYsF
import Derived.Test.YtnnlpkbopeiefaaGreatDoorRg
/-! The walk of YscalarBares. -/
namespace Go.Proofs.YtnnlpkbopeiefaaGreatDoor
set_option linter.unusedSimpArgs false
set_option linter.unusedVariables false
open Go.RowKit
open Go.Lib hiding intOf
theorem str_sameB (x : Stp) : ((bs x).toList == (bs x).toList) = true ∧ ((bs x).toList != (bs x).toList) = false := by simp
abbrev BaS (W : World) (Z : Nat) (k : Int) (s : ByteArray) (kv iv : Value) (w : World) : Prop :=
  (w.cell? ⟨Z, 0, none⟩ = some (.int .i64 k) ∧ w.cell? ⟨Z, 1, none⟩ = some (.string s) ∧ w.cell? ⟨Z, 2, none⟩ = some kv ∧ w.cell? ⟨Z, 3, none⟩ = some iv) ∧ Hid (Below W.heap.size W w)
section
variable {W w w2 : World} {Z : Nat} {k : Int} {s : ByteArray} {kv iv : Value}
theorem BaS.bel (h : BaS W Z k s kv iv w) : Below W.heap.size W w := h.2.out
theorem BaS.step (h : BaS W Z k s kv iv w) (hb : Below w.heap.size w w2) : BaS W Z k s kv iv w2 := by
  obtain ⟨⟨h0, h1, h2, h3⟩, h8⟩ := h
  exact ⟨⟨cell_keepT h0 hb, cell_keepT h1 hb, cell_keepT h2 hb, cell_keepT h3 hb⟩, Lib.hid (below_of_new h8.out hb)⟩
theorem lt13 {i : Nat} (h : i < 13) : i = 0 ∨ i = 1 ∨ i = 2 ∨ i = 3 ∨ i = 4 ∨ i = 5 ∨ i = 6 ∨ i = 7 ∨ i = 8 ∨ i = 9 ∨ i = 10 ∨ i = 11 ∨ i = 12 := by omega
/-- What is known while the region of the bare test runs, the text being no bare one. -/
def BaF (W : World) (Z : Nat) (k : Int) (s0 : ByteArray) (kv iv : Value) (s : Stp) (d : Nat → Bool) (v : Nat → Value) (w : World) : Prop :=
  BaS W Z k s0 kv iv w ∧ (d 0 = true → v 24 = .string (bs s)) ∧ (d 1 = true → v 25 = .bool false) ∧ (d 2 = true → v 26 = .bool false) ∧ (d 5 = true → v 29 = undef) ∧ (d 12 = true → v 36 = .bool false)
theorem BaF.init {k : Int} {s0 : ByteArray} {s : Stp} {v : Nat → Value} (h : BaS W Z k s0 kv iv w) : BaF W Z k s0 kv iv s (fun _ => false) v w :=
  ⟨h, fun h => Bool.noConfusion h, fun h => Bool.noConfusion h, fun h => Bool.noConfusion h, fun h => Bool.noConfusion h, fun h => Bool.noConfusion h⟩
theorem wanted_none {o : Oper} {y : Nat → Option Bool} (h : o.guard = none) : Region.wanted o y = true := by simp [Region.wanted, h]
def boolAt (o : Option Value) : Option Bool := match o with | some (.bool b) => some b | _ => none
theorem opt_no {o : Option Value} {v : Value} {b : Bool} (h : o.getD undef = v) (hv : v ≠ .bool b) : ¬ boolAt o = some b := by
  intro e
  cases o with
  | none => cases e
  | some x =>
    simp only [Option.getD_some] at h
    subst h
    cases x <;> simp [boolAt] at e
    subst e
    exact hv rfl
theorem BaS.drew (h : BaS W Z k s kv iv w) : BaS W Z k s kv iv w.drew := h.step (Below.refl _ _).drew
end
set_option maxRecDepth 100000 in
set_option maxHeartbeats 4000000 in
theorem yscalarBares_any (sb : ByteArray) (w : World) (hV : AVar w) :
    Calls Tryz.prog 10 #[.string sb] w fun e w' => e = .returned (.bool true) ∧ Below w.heap.size w w' := by
  obtain ⟨s, rfl⟩ : ∃ l, sb = bs l := ⟨sb.data.toList, (bs_of sb).symm⟩
  have sl := bs_size s
  have HV := Lib.hid hV
  have C0 := Lib.hid (small11_any w hV)
  clear hV
  by_cases hl : 2048 < s.length
  · have dk : decide ((2048 : Int) < (s.length : Int)) = true := decide_eq_true (by omega)
    go_enter Tryz.func10, Tryz.ntmps10
    go_wp2_with fail
    refine C0.out.mono ?_
    rintro e w2 ⟨rfl, hb2⟩
    have HB2 := Lib.hid hb2
    clear hb2
    go_wp2_with fail
    go_ret
    exact ⟨rfl, HB2.out⟩
  have dk : decide ((2048 : Int) < (s.length : Int)) = false := decide_eq_false (by omega)
  have CR : Hid (∀ w', Below w.heap.size w w' → Calls Tryz.prog 35 #[.string (bs s)] w' (NewE2 (readY s).1 (readY s).2 w')) := Lib.hid (fun w' hb => yread_any s w' (by omega) (HV.out.keep hb))
  have CB : Hid (∀ w', Below w.heap.size w w' → Calls Tryz.prog 40 #[.string (bs s)] w' fun e w2 => e = .returned (.bool (bareB s)) ∧ Below w'.heap.size w' w2) := Lib.hid (fun w' hb => ybare_any s w' (by omega) (HV.out.keep hb).1)
  have CRes : Hid (∀ w', Below w.heap.size w w' → Calls Tryz.prog 42 #[.string (bs s)] w' fun e w2 => e = ResE s ∧ Below w'.heap.size w' w2) := Lib.hid (fun w' hb => yresolve_any s w' (by omega) (HV.out.keep hb).1)
  have CQ : Hid (∀ w', Below w.heap.size w w' → Calls Tryz.prog 46 #[.string (bs s)] w' fun e w2 => e = QuotedE (sqw s) ∧ Below w'.heap.size w' w2) := Lib.hid (fun w' hb => quoted_any s w' (by omega) (HV.out.keep hb).tabs (HV.out.keep hb).1.2.2)
  have CO : Hid (∀ w', Calls Tryz.prog 47 #[.string (bs s)] w' fun e w2 => e = .returned (.agg #[.int .i64 4, .string (bs s), .slice none 0 0, .slice none 0 0]) ∧ Below w'.heap.size w' w2) := Lib.hid (fun w' => vof_any s w')
  have CK : Hid (∀ w', Below w.heap.size w w' → Calls Tryz.prog 38 #[.string (bs s)] w' fun e w2 => e = QuotedE (keyRd s) ∧ Below w'.heap.size w' w2) := Lib.hid (fun w' hb => ykey_any s w' (by omega) (HV.out.keep hb))
  have hqb : Hid ((sqw s).2 = 0 → (∀ w', Below w.heap.size w w' → Calls Tryz.prog 35 #[.string (bs (sqw s).1)] w' (NewE2 (strT s) 0 w')) ∧ ∀ w', Below w.heap.size w w' → Calls Tryz.prog 38 #[.string (bs (sqw s).1)] w' fun e w2 => e = .returned (.tuple #[.string (bs s), .int .i64 0]) ∧ Below w'.heap.size w' w2) := Lib.hid (fun h0 => by
    obtain ⟨h1, r, h2⟩ := text_sqw s h0
    obtain ⟨h3, h4⟩ := read_quoted h1 ⟨39, r, h2, .inr rfl⟩
    have hlen := sqw_len2 s
    refine ⟨fun w' hb => ?_, fun w' hb => ?_⟩
    · have := yread_any (sqw s).1 w' (by omega) (HV.out.keep hb)
      rw [h3] at this
      exact this
    · have := ykey_any (sqw s).1 w' (by omega) (HV.out.keep hb)
      rw [h4] at this
      exact this)
  have hbb : Hid (bareB s = true → readY s = (resT s, 0) ∧ keyRd s = (s, 0)) := Lib.hid (fun h => ⟨read_bare h, key_bare h⟩)
  have CE : Hid (∀ (T : VT) (w' : World) (kv iv kv2 iv2 : Value), VD w' T.depth T kv iv → VD w' T.depth T kv2 iv2 → T.bulk ≤ 1073741824 → Calls Tryz.prog 27 #[vv T kv iv, vv T kv2 iv2] w' fun e w2 => e = .returned (.bool true) ∧ Below w'.heap.size w' w2) := Lib.hid (fun T w' kv iv kv2 iv2 h1 h2 hb => requal_any T.depth T _ _ _ _ w' h1 h2 hb)
  obtain ⟨⟨T, E⟩, hT⟩ : ∃ Q, readY s = Q := ⟨_, rfl⟩
  obtain ⟨⟨A2, E2⟩, hA2⟩ : ∃ Q, sqw s = Q := ⟨_, rfl⟩
  obtain ⟨⟨A3, E3⟩, hA3⟩ : ∃ Q, keyRd s = Q := ⟨_, rfl⟩
  obtain ⟨B, hB⟩ : ∃ B, bareB s = B := ⟨_, rfl⟩
  obtain ⟨⟨rk, rs⟩, hrs⟩ : ∃ Q, resP s = Q := ⟨_, rfl⟩
  have hrl := resP_len s
  unfold ResE at CRes
  have hrt : resT s = .mk rk rs [] [] := by unfold resT; rw [hrs]
  rw [hrs] at CRes hrl
  rw [hT] at CR hbb
  rw [hA2] at CQ hqb
  rw [hA3] at CK hbb
  rw [hB] at CB hbb
  rw [hrt] at hbb
  unfold QuotedE at CQ CK
  simp only [] at CR CQ CK hqb hbb hrl CRes
  obtain ⟨s1, s2⟩ := str_sameB s
  clear hT hA2 hA3 hB hrs hrt
  go_enter Tryz.func10, Tryz.ntmps10
  go_wp2_with fail
  refine C0.out.mono ?_
  rintro e w2 ⟨rfl, hb2⟩
  have HB2 := Lib.hid hb2
  clear hb2
  go_wp2_with fail
  refine (CR.out _ HB2.out).mono ?_
  rintro e w3 ⟨⟨kv, iv, rfl, hv3⟩, hb3⟩
  obtain ⟨pk, ck, p, c, rfl, rfl⟩ := hv3.form
  have hb30 := below_alloc1 w3 (.cells #[.int .i64 T.kind, .string (bs T.text), .slice pk T.keys.length ck, .slice p T.items.length c] 25)
  have hz0 := VBox.new w3 T (.slice pk T.keys.length ck) (.slice p T.items.length c)
  obtain ⟨w4, hw4⟩ : ∃ W, w3.alloc (.cells #[.int .i64 T.kind, .string (bs T.text), .slice pk T.keys.length ck, .slice p T.items.length c] 25) = W := ⟨_, rfl⟩
  obtain ⟨Z, hZ⟩ : ∃ Z, w3.heap.size = Z := ⟨_, rfl⟩
  rw [hw4] at hb30 hz0
  rw [hZ] at hz0
  have HZ := Lib.hid hz0
  have HB4 := Lib.hid (below_of_new HB2.out (below_of_new hb3 hb30))
  have HVT := Lib.hid ((hv3.keep hb30).toVD)
  unfold vv
  clear hb3 hb30 hz0 hv3
  go_upto_region 5 with fail
  clear hw4 hZ
  obtain ⟨z0, z1, z2, z3⟩ := HZ.out.cells
  go_cut [24, 25, 26, 27, 28, 29, 30, 31, 32, 33, 34, 35, 36] (fun s24 s25 s26 s27 s28 s29 s30 s31 s32 s33 s34 s35 s36 wx => s36 = .bool false ∧ Hid (Below w.heap.size w wx))
  case first =>
    have HS0 : BaS w4 Z T.kind (bs T.text) (.slice pk T.keys.length ck) (.slice p T.items.length c) w4 := ⟨⟨z0, z1, z2, z3⟩, Lib.hid (Below.refl _ _)⟩
    cases B with
    | false =>
      have hfol : Tryz.prog.follows .mixedOrders = true := by kernel_rfl
      refine wp_region_factsG hfol [24, 25, 26, 27, 28, 29, 30, 31, 32, 33, 34, 35, 36] _ rfl (by kernel_rfl) (by kernel_rfl) (fun d v w' => BaF w4 Z T.kind (bs T.text) (.slice pk T.keys.length ck) (.slice p T.items.length c) s d v w') (BaF.init HS0.drew) ?_ ?_
      · intro d a w' i o' ho hi hall hfr hF R' hR
        have hi13 : i < 13 := (Array.getElem?_eq_some_iff.1 ho).1
        have q0 : a.tmps[0]?.getD undef = .string (bs s) := by rw [← Array.getD_eq_getD_getElem?]; exact hfr 0 (by decide)
        clear hfr
        obtain ⟨f0, f1, f2, f3, f4, f5⟩ := hF
        rcases lt13 hi13 with rfl | rfl | rfl | rfl | rfl | rfl | rfl | rfl | rfl | rfl | rfl | rfl | rfl
        · simp only [List.getElem?_toArray, List.getElem?_cons_zero, List.getElem?_cons_succ, Option.some.injEq] at ho
          subst ho
          rw [if_pos (wanted_none rfl)]
          go_simp
          exact hR _ _ ⟨f0, fun _ => rfl, f2, f3, f4, f5⟩
        · simp only [List.getElem?_toArray, List.getElem?_cons_zero, List.getElem?_cons_succ, Option.some.injEq] at ho
          subst ho
          simp [Region.binds] at hall
          have c24 : a.tmps[24]?.getD undef = .string (bs s) := by rw [← Array.getD_eq_getD_getElem?]; exact f1 hall
          rw [if_pos (wanted_none rfl)]
          go_simp
          refine (CB.out _ (below_of_new HB4.out f0.bel)).mono ?_
          rintro e w20 ⟨rfl, hb20⟩
          exact hR _ _ ⟨f0.step hb20, f1, fun _ => rfl, f3, f4, f5⟩
        · simp only [List.getElem?_toArray, List.getElem?_cons_zero, List.getElem?_cons_succ, Option.some.injEq] at ho
          subst ho
          simp [Region.binds] at hall
          have c25 : a.tmps[25]?.getD undef = .bool false := by rw [← Array.getD_eq_getD_getElem?]; exact f2 hall
          rw [if_pos (wanted_none rfl)]
          go_simp
          exact hR _ _ ⟨f0, f1, f2, fun _ => rfl, f4, f5⟩
        · simp only [List.getElem?_toArray, List.getElem?_cons_zero, List.getElem?_cons_succ, Option.some.injEq] at ho
          subst ho
          simp [Region.binds] at hall
          have c26 : a.tmps[26]?.getD undef = .bool false := by rw [← Array.getD_eq_getD_getElem?]; exact f3 (by first | exact hall | exact hall.1 | exact hall.2 | exact hall.2.1 | exact hall.2.2 | exact hall.2.2.1 | exact hall.2.2.2)
          rw [if_neg (show ¬ Region.wanted _ _ = true by simp only [Region.wanted, yielded, Option.bind, List.getElem?_toArray, List.getElem?_cons_zero, List.getElem?_cons_succ, decide_eq_true_eq, beq_iff_eq]; exact opt_no c26 (by intro h; cases h))]
          exact hR _ _ ⟨f0, f1, f2, f3, f4, f5⟩
        · simp only [List.getElem?_toArray, List.getElem?_cons_zero, List.getElem?_cons_succ, Option.some.injEq] at ho
          subst ho
          simp [Region.binds] at hall
          have c26 : a.tmps[26]?.getD undef = .bool false := by rw [← Array.getD_eq_getD_getElem?]; exact f3 (by first | exact hall | exact hall.1 | exact hall.2 | exact hall.2.1 | exact hall.2.2 | exact hall.2.2.1 | exact hall.2.2.2)
          rw [if_neg (show ¬ Region.wanted _ _ = true by simp only [Region.wanted, yielded, Option.bind, List.getElem?_toArray, List.getElem?_cons_zero, List.getElem?_cons_succ, decide_eq_true_eq, beq_iff_eq]; exact opt_no c26 (by intro h; cases h))]
          exact hR _ _ ⟨f0, f1, f2, f3, f4, f5⟩
        · simp only [List.getElem?_toArray, List.getElem?_cons_zero, List.getElem?_cons_succ, Option.some.injEq] at ho
          subst ho
          simp [Region.binds] at hall
          have c26 : a.tmps[26]?.getD undef = .bool false := by rw [← Array.getD_eq_getD_getElem?]; exact f3 (by first | exact hall | exact hall.1 | exact hall.2 | exact hall.2.1 | exact hall.2.2 | exact hall.2.2.1 | exact hall.2.2.2)
          rw [if_neg (show ¬ Region.wanted _ _ = true by simp only [Region.wanted, yielded, Option.bind, List.getElem?_toArray, List.getElem?_cons_zero, List.getElem?_cons_succ, decide_eq_true_eq, beq_iff_eq]; exact opt_no c26 (by intro h; cases h))]
          exact hR _ _ ⟨f0, f1, f2, f3, fun _ => rfl, f5⟩
        · simp only [List.getElem?_toArray, List.getElem?_cons_zero, List.getElem?_cons_succ, Option.some.injEq] at ho
          subst ho
          simp [Region.binds] at hall
          have c29 : a.tmps[29]?.getD undef = undef := by rw [← Array.getD_eq_getD_getElem?]; exact f4 (by first | exact hall | exact hall.1 | exact hall.2 | exact hall.2.1 | exact hall.2.2 | exact hall.2.2.1 | exact hall.2.2.2)
          rw [if_neg (show ¬ Region.wanted _ _ = true by simp only [Region.wanted, yielded, Option.bind, List.getElem?_toArray, List.getElem?_cons_zero, List.getElem?_cons_succ, decide_eq_true_eq, beq_iff_eq]; exact opt_no c29 (by intro h; cases h))]
          exact hR _ _ ⟨f0, f1, f2, f3, f4, f5⟩
        · simp only [List.getElem?_toArray, List.getElem?_cons_zero, List.getElem?_cons_succ, Option.some.injEq] at ho
          subst ho
          simp [Region.binds] at hall
          have c29 : a.tmps[29]?.getD undef = undef := by rw [← Array.getD_eq_getD_getElem?]; exact f4 (by first | exact hall | exact hall.1 | exact hall.2 | exact hall.2.1 | exact hall.2.2 | exact hall.2.2.1 | exact hall.2.2.2)
          rw [if_neg (show ¬ Region.wanted _ _ = true by simp only [Region.wanted, yielded, Option.bind, List.getElem?_toArray, List.getElem?_cons_zero, List.getElem?_cons_succ, decide_eq_true_eq, beq_iff_eq]; exact opt_no c29 (by intro h; cases h))]
          exact hR _ _ ⟨f0, f1, f2, f3, f4, f5⟩
        · simp only [List.getElem?_toArray, List.getElem?_cons_zero, List.getElem?_cons_succ, Option.some.injEq] at ho
          subst ho
          simp [Region.binds] at hall
          have c29 : a.tmps[29]?.getD undef = undef := by rw [← Array.getD_eq_getD_getElem?]; exact f4 (by first | exact hall | exact hall.1 | exact hall.2 | exact hall.2.1 | exact hall.2.2 | exact hall.2.2.1 | exact hall.2.2.2)
          rw [if_neg (show ¬ Region.wanted _ _ = true by simp only [Region.wanted, yielded, Option.bind, List.getElem?_toArray, List.getElem?_cons_zero, List.getElem?_cons_succ, decide_eq_true_eq, beq_iff_eq]; exact opt_no c29 (by intro h; cases h))]
          exact hR _ _ ⟨f0, f1, f2, f3, f4, f5⟩
        · simp only [List.getElem?_toArray, List.getElem?_cons_zero, List.getElem?_cons_succ, Option.some.injEq] at ho
          subst ho
          simp [Region.binds] at hall
          have c29 : a.tmps[29]?.getD undef = undef := by rw [← Array.getD_eq_getD_getElem?]; exact f4 (by first | exact hall | exact hall.1 | exact hall.2 | exact hall.2.1 | exact hall.2.2 | exact hall.2.2.1 | exact hall.2.2.2)
          rw [if_neg (show ¬ Region.wanted _ _ = true by simp only [Region.wanted, yielded, Option.bind, List.getElem?_toArray, List.getElem?_cons_zero, List.getElem?_cons_succ, decide_eq_true_eq, beq_iff_eq]; exact opt_no c29 (by intro h; cases h))]
          exact hR _ _ ⟨f0, f1, f2, f3, f4, f5⟩
        · simp only [List.getElem?_toArray, List.getElem?_cons_zero, List.getElem?_cons_succ, Option.some.injEq] at ho
          subst ho
          simp [Region.binds] at hall
          have c29 : a.tmps[29]?.getD undef = undef := by rw [← Array.getD_eq_getD_getElem?]; exact f4 (by first | exact hall | exact hall.1 | exact hall.2 | exact hall.2.1 | exact hall.2.2 | exact hall.2.2.1 | exact hall.2.2.2)
          rw [if_neg (show ¬ Region.wanted _ _ = true by simp only [Region.wanted, yielded, Option.bind, List.getElem?_toArray, List.getElem?_cons_zero, List.getElem?_cons_succ, decide_eq_true_eq, beq_iff_eq]; exact opt_no c29 (by intro h; cases h))]
          exact hR _ _ ⟨f0, f1, f2, f3, f4, f5⟩
        · simp only [List.getElem?_toArray, List.getElem?_cons_zero, List.getElem?_cons_succ, Option.some.injEq] at ho
          subst ho
          simp [Region.binds] at hall
          have c26 : a.tmps[26]?.getD undef = .bool false := by rw [← Array.getD_eq_getD_getElem?]; exact f3 (by first | exact hall | exact hall.1 | exact hall.2 | exact hall.2.1 | exact hall.2.2 | exact hall.2.2.1 | exact hall.2.2.2)
          rw [if_neg (show ¬ Region.wanted _ _ = true by simp only [Region.wanted, yielded, Option.bind, List.getElem?_toArray, List.getElem?_cons_zero, List.getElem?_cons_succ, decide_eq_true_eq, beq_iff_eq]; exact opt_no c26 (by intro h; cases h))]
          exact hR _ _ ⟨f0, f1, f2, f3, f4, f5⟩
        · simp only [List.getElem?_toArray, List.getElem?_cons_zero, List.getElem?_cons_succ, Option.some.injEq] at ho
          subst ho
          simp [Region.binds] at hall
          have c26 : a.tmps[26]?.getD undef = .bool false := by rw [← Array.getD_eq_getD_getElem?]; exact f3 (by first | exact hall | exact hall.1 | exact hall.2)
          rw [if_pos (wanted_none rfl)]
          go_simp
          exact hR _ _ ⟨f0, f1, f2, f3, f4, fun _ => rfl⟩
      · intro v w20 hF
        have HBF : Hid (Below w.heap.size w w20) := Lib.hid (below_of_new HB4.out hF.1.bel)
        have h36 := hF.2.2.2.2.2 (by decide)
        simp only [fillT, List.setIfInBounds_toArray, List.set_cons_succ, List.set_cons_zero]
        rw [h36]
        clear hF h36
        go_wp2_with fail
        go_meet
        exact ⟨rfl, HBF⟩
    | true =>
      obtain ⟨hq1, hq2⟩ := hbb.out rfl
      injection hq1 with hT1 hE1
      injection hq2 with hA3 hE3
      subst hT1 hE1
      have z0 : w4.cell? ⟨Z, 0, none⟩ = some (.int .i64 rk) := z0
      have z1 : w4.cell? ⟨Z, 1, none⟩ = some (.string (bs rs)) := z1
      have z2 : w4.cell? ⟨Z, 2, none⟩ = some (.slice pk 0 ck) := z2
      have z3 : w4.cell? ⟨Z, 3, none⟩ = some (.slice p 0 c) := z3
      clear HS0
      have HS0 : BaS w4 Z rk (bs rs) (.slice pk 0 ck) (.slice p 0 c) w4 := ⟨⟨z0, z1, z2, z3⟩, Lib.hid (Below.refl _ _)⟩
      have HE1 : Hid (∀ w', Below w4.heap.size w4 w' → Calls Tryz.prog 27 #[.agg #[.int .i64 rk, .string (bs rs), .slice pk 0 ck, .slice p 0 c], .agg #[.int .i64 rk, .string (bs rs), .slice none 0 0, .slice none 0 0]] w' fun e w2 => e = .returned (.bool true) ∧ Below w'.heap.size w' w2) := Lib.hid (fun w' hb => CE.out (VT.mk rk rs [] []) w' _ _ _ _ (HVT.out.keep hb) (leafVD w' rk rs) (by
        have e : (VT.mk rk rs [] []).bulk = rs.length + 1 := by rw [VT.bulk]; simp [totS, bulks]
        rw [e]
        omega))
      clear hA3 hE3 hbb
      go_region_held3 (fun w' => BaS w4 Z rk (bs rs) (.slice pk 0 ck) (.slice p 0 c) w') ((first | exact BaS.drew (by assumption) | exact BaS.step (by assumption) (by assumption) | assumption))
        ((first
          | (go_at_call 40; (with_reducible refine (CB.out _ (below_of_new HB4.out (BaS.bel (by assumption : BaS w4 Z rk (bs rs) (.slice pk 0 ck) (.slice p 0 c) _)))).mono ?_); rintro e w20 ⟨rfl, hb20⟩)
          | (go_at_call 42; (with_reducible refine (CRes.out _ (below_of_new HB4.out (BaS.bel (by assumption : BaS w4 Z rk (bs rs) (.slice pk 0 ck) (.slice p 0 c) _)))).mono ?_); rintro e w21 ⟨rfl, hb21⟩)
          | (go_at_call 27; (refine (HE1.out _ (BaS.bel (by assumption : BaS w4 Z rk (bs rs) (.slice pk 0 ck) (.slice p 0 c) _))).mono ?_); rintro e w22 ⟨rfl, hb22⟩)))
      all_goals
        have HBF : Hid (Below w.heap.size w w22) := Lib.hid (below_of_new HB4.out (BaS.bel (by assumption : BaS w4 Z rk (bs rs) (.slice pk 0 ck) (.slice p 0 c) w22)))
        go_wp2_with fail
        go_meet
        exact ⟨rfl, HBF⟩
  case rest =>
  obtain ⟨rfl, HB5⟩ := hcut
  clear z0 z1 z2 z3 HB4
  go_wp2_with fail
  refine (CQ.out _ HB5.out).mono ?_
  rintro e w6 ⟨rfl, hb6⟩
  have HB6 := Lib.hid (below_of_new HB5.out hb6)
  clear hb6 HB5
  go_upto_if 43 with fail
  go_cut [8, 9, 10, 11, 44, 45, 46, 47, 48, 49, 50, 51, 52, 53, 54, 55, 56, 57, 58, 59, 60, 61, 62, 63, 64, 65, 66, 67, 68, 69, 70, 71] (fun s8 s9 s10 s11 s44 s45 s46 s47 s48 s49 s50 s51 s52 s53 s54 s55 s56 s57 s58 s59 s60 s61 s62 s63 s64 s65 s66 s67 s68 s69 s70 s71 wx => Hid (Below w.heap.size w wx))
  case first =>
    by_cases h0 : E2 = 0
    rotate_left
    · have d0 : (E2 == 0) = false := beq_eq_false_iff_ne.2 h0
      go_wp2_with fail
      go_meet
      exact HB6
    · subst h0
      obtain ⟨hq1, hq2⟩ := hqb.out rfl
      have HQ1 := Lib.hid hq1
      have HQ2 := Lib.hid hq2
      clear hq1 hq2 hqb
      go_wp2_with fail
      refine (HQ1.out _ HB6.out).mono ?_
      rintro e w7 ⟨⟨kv, iv, rfl, hv7⟩, hb7⟩
      obtain ⟨pk2, ck2, p2, c2, rfl, rfl⟩ := hv7.form
      have hb70 := below_alloc1 w7 (.cells #[.int .i64 4, .string (bs s), .slice pk2 0 ck2, .slice p2 0 c2] 25)
      have hz0 : VBox (w7.alloc (.cells #[.int .i64 4, .string (bs s), .slice pk2 0 ck2, .slice p2 0 c2] 25)) w7.heap.size (strT s) (.slice pk2 0 ck2) (.slice p2 0 c2) := VBox.new w7 (strT s) _ _
      obtain ⟨w8, hw8⟩ : ∃ W, w7.alloc (.cells #[.int .i64 4, .string (bs s), .slice pk2 0 ck2, .slice p2 0 c2] 25) = W := ⟨_, rfl⟩
      obtain ⟨Z2, hZ2⟩ : ∃ Z, w7.heap.size = Z := ⟨_, rfl⟩
      rw [hw8] at hb70 hz0
      rw [hZ2] at hz0
      have HZ2 := Lib.hid hz0
      have HB8 := Lib.hid (below_of_new HB6.out (below_of_new hb7 hb70))
      have HVT2 := Lib.hid ((hv7.keep hb70).toVD)
      rw [show vv (strT s) (.slice pk2 (strT s).keys.length ck2) (.slice p2 (strT s).items.length c2) = .agg #[.int .i64 4, .string (bs s), .slice pk2 0 ck2, .slice p2 0 c2] from rfl]
      clear hb7 hb70 hz0 hv7
      go_wp2_with fail
      refine (HQ2.out _ HB8.out).mono ?_
      rintro e w9 ⟨rfl, hb9⟩
      have HB9 := Lib.hid (below_of_new HB8.out hb9)
      have HVT3 := Lib.hid (HVT2.out.keep hb9)
      obtain ⟨z0, z1, z2, z3⟩ := (HZ2.out.keep hb9).cells
      have z0 : w9.cell? ⟨Z2, 0, none⟩ = some (.int .i64 4) := z0
      have z1 : w9.cell? ⟨Z2, 1, none⟩ = some (.string (bs s)) := z1
      have HE2 : Hid (∀ w', Below w9.heap.size w9 w' → Calls Tryz.prog 27 #[.agg #[.int .i64 4, .string (bs s), .slice pk2 0 ck2, .slice p2 0 c2], .agg #[.int .i64 4, .string (bs s), .slice none 0 0, .slice none 0 0]] w' fun e w2 => e = .returned (.bool true) ∧ Below w'.heap.size w' w2) := Lib.hid (fun w' hb => CE.out (strT s) w' _ _ _ _ (HVT3.out.keep hb) (leafVD w' 4 s) (by
        have e : (strT s).bulk = s.length + 1 := by unfold strT; rw [VT.bulk]; simp [totS, bulks]
        rw [e]
        omega))
      clear hb9 HVT2 HVT3 hw8 hZ2
      have HS0 : BaS w9 Z2 4 (bs s) (.slice pk2 0 ck2) (.slice p2 0 c2) w9 := ⟨⟨z0, z1, z2, z3⟩, Lib.hid (Below.refl _ _)⟩
      go_upto_region 11 with fail
      go_region_held3 (fun w' => BaS w9 Z2 4 (bs s) (.slice pk2 0 ck2) (.slice p2 0 c2) w') ((first | exact BaS.drew (by assumption) | exact BaS.step (by assumption) (by assumption) | assumption))
        ((first
          | (go_at_call 47; (with_reducible refine (CO.out _).mono ?_); rintro e w21 ⟨rfl, hb21⟩)
          | (go_at_call 27; (with_reducible refine (HE2.out _ (BaS.bel (by assumption : BaS w9 Z2 4 (bs s) (.slice pk2 0 ck2) (.slice p2 0 c2) _))).mono ?_); rintro e w22 ⟨rfl, hb22⟩)))
      all_goals
        have HBF : Hid (Below w.heap.size w w22) := Lib.hid (below_of_new HB9.out (BaS.bel (by assumption : BaS w9 Z2 4 (bs s) (.slice pk2 0 ck2) (.slice p2 0 c2) w22)))
        go_wp2_with fail
        go_meet
        exact HBF
  case rest =>
  have HB7 := hcut
  clear hcut HB6
  go_wp2_with fail
  refine (CK.out _ HB7.out).mono ?_
  rintro e w8 ⟨rfl, hb8⟩
  have HB8 := Lib.hid (below_of_new HB7.out hb8)
  clear hb8
  go_wp2_with fail
  refine (CB.out _ HB8.out).mono ?_
  rintro e w9 ⟨rfl, hb9⟩
  have HB9 := Lib.hid (below_of_new HB8.out hb9)
  clear hb9
  cases B with
  | false =>
    go_wp2_with fail
    go_ret
    exact ⟨by first | rfl | simp, HB9.out⟩
  | true =>
    obtain ⟨_, hq2⟩ := hbb.out rfl
    injection hq2 with hA3 hE3
    subst hA3 hE3
    go_wp2_with fail
    go_ret
    exact ⟨by first | rfl | simp, HB9.out⟩
end Go.Proofs.YtnnlpkbopeiefaaGreatDoor
