import Derived.Test.YtpfkdnhjideflaaDoorNumCmpW
/-! The walk of NumberOrders. -/
namespace Go.Proofs.YtpfkdnhjideflaaDoor
set_option linter.unusedSimpArgs false
set_option linter.unusedVariables false
open Go.RowKit
open Go.Lib hiding intOf

/-- What holds of the three boxes all through. -/
abbrev Tri (B : Nat) (a b c : Num) (w0 w' : World) : Prop :=
  (w'.cell? ⟨B, 0, none⟩ = some (.bool a.neg) ∧ w'.cell? ⟨B, 1, none⟩ = some (.string (bs a.dig)) ∧ w'.cell? ⟨B, 2, none⟩ = some (.int .i64 a.exp) ∧
  w'.cell? ⟨B + 1, 0, none⟩ = some (.bool b.neg) ∧ w'.cell? ⟨B + 1, 1, none⟩ = some (.string (bs b.dig)) ∧ w'.cell? ⟨B + 1, 2, none⟩ = some (.int .i64 b.exp) ∧
  w'.cell? ⟨B + 1 + 1, 0, none⟩ = some (.bool c.neg) ∧ w'.cell? ⟨B + 1 + 1, 1, none⟩ = some (.string (bs c.dig)) ∧ w'.cell? ⟨B + 1 + 1, 2, none⟩ = some (.int .i64 c.exp)) ∧
  Hid (B + 1 + 1 < w'.heap.size ∧ Below B w0 w')
theorem Tri.start (a b c : Num) (w : World) : Tri w.heap.size a b c w (((w.alloc (.cells #[.bool a.neg, .string (bs a.dig), .int .i64 a.exp] 24)).alloc (.cells #[.bool b.neg, .string (bs b.dig), .int .i64 b.exp] 24)).alloc (.cells #[.bool c.neg, .string (bs c.dig), .int .i64 c.exp] 24)) := by
  obtain ⟨⟨r0, r1, r2, q0, q1, q2⟩, h1, h2⟩ := Two.start0 a b w 24
  have hk := NumBox.new ((w.alloc (.cells #[.bool a.neg, .string (bs a.dig), .int .i64 a.exp] 24)).alloc (.cells #[.bool b.neg, .string (bs b.dig), .int .i64 b.exp] 24)) c
  simp only [World.size_alloc] at hk
  obtain ⟨x0, x1, x2⟩ := hk.cells
  obtain ⟨hc, _⟩ := bcell (below_alloc1 ((w.alloc (.cells #[.bool a.neg, .string (bs a.dig), .int .i64 a.exp] 24)).alloc (.cells #[.bool b.neg, .string (bs b.dig), .int .i64 b.exp] 24)) (.cells #[.bool c.neg, .string (bs c.dig), .int .i64 c.exp] 24))
  exact ⟨⟨(hc _ _ (by omega)).trans r0, (hc _ _ (by omega)).trans r1, (hc _ _ (by omega)).trans r2, (hc _ _ h1).trans q0, (hc _ _ h1).trans q1, (hc _ _ h1).trans q2, x0, x1, x2⟩, by simp, h2.alloc (by omega) _⟩
theorem Tri.step {B : Nat} {a b c : Num} {w0 w1 w2 : World} (h : Tri B a b c w0 w1) (hb : Below w1.heap.size w1 w2) : Tri B a b c w0 w2 := by
  obtain ⟨⟨r0, r1, r2, q0, q1, q2, x0, x1, x2⟩, h1, h2⟩ := h
  obtain ⟨hc, _⟩ := bcell hb
  exact ⟨⟨(hc _ _ (by omega)).trans r0, (hc _ _ (by omega)).trans r1, (hc _ _ (by omega)).trans r2, (hc _ _ (by omega)).trans q0, (hc _ _ (by omega)).trans q1, (hc _ _ (by omega)).trans q2, (hc _ _ h1).trans x0, (hc _ _ h1).trans x1, (hc _ _ h1).trans x2⟩, Nat.lt_of_lt_of_le h1 hb.size, h2.trans (hb.mono (by omega))⟩
set_option maxRecDepth 100000 in
set_option maxHeartbeats 4000000 in
theorem numberOrders_walk (ga : Bool) (a : ByteArray) (ea : Int) (gb : Bool) (b : ByteArray) (eb : Int) (gc : Bool) (c : ByteArray) (ec : Int) (i k : Int) (w : World)
    (za : a.size ≤ 9223372036854775807) (zb : b.size ≤ 9223372036854775807) (zc : c.size ≤ 9223372036854775807) (hi : -9223372036854775808 ≤ i ∧ i ≤ 9223372036854775807) (hk : -9223372036854775808 ≤ k ∧ k ≤ 9223372036854775807) (hT : PTab w) :
    Calls Tryd.prog 5 #[.agg #[.bool ga, .string a, .int .i64 ea], .agg #[.bool gb, .string b, .int .i64 eb], .agg #[.bool gc, .string c, .int .i64 ec], .int .i64 i, .int .i64 k] w fun e w' => e = .returned (.bool true) ∧ Below w.heap.size w w' := by
  obtain ⟨A, rfl⟩ : ∃ l, a = bs l := ⟨_, (bs_of a).symm⟩
  obtain ⟨B, rfl⟩ : ∃ l, b = bs l := ⟨_, (bs_of b).symm⟩
  obtain ⟨C, rfl⟩ : ∃ l, c = bs l := ⟨_, (bs_of c).symm⟩
  obtain ⟨Fa, hFa⟩ : ∃ F, decide ((bs A).size ≤ 2048) = F := ⟨_, rfl⟩
  have CFa := Lib.hid (fun w => few_is ga (bs A) ea w za Fa hFa)
  have sA := bs_size A
  have hla : Fa = true → A.length ≤ 4294967296 := fun h => by have := of_decide_eq_true (hFa.trans h); omega
  have hla := Lib.hid hla
  clear hFa
  obtain ⟨Fb, hFb⟩ : ∃ F, decide ((bs B).size ≤ 2048) = F := ⟨_, rfl⟩
  have CFb := Lib.hid (fun w => few_is gb (bs B) eb w zb Fb hFb)
  have sB := bs_size B
  have hlb : Fb = true → B.length ≤ 4294967296 := fun h => by have := of_decide_eq_true (hFb.trans h); omega
  have hlb := Lib.hid hlb
  clear hFb
  obtain ⟨Fc, hFc⟩ : ∃ F, decide ((bs C).size ≤ 2048) = F := ⟨_, rfl⟩
  have CFc := Lib.hid (fun w => few_is gc (bs C) ec w zc Fc hFc)
  have sC := bs_size C
  have hlc : Fc = true → C.length ≤ 4294967296 := fun h => by have := of_decide_eq_true (hFc.trans h); omega
  have hlc := Lib.hid hlc
  clear hFc
  have HT := Lib.hid hT
  have hst := Lib.hid (Tri.start ⟨ga, A, ea⟩ ⟨gb, B, eb⟩ ⟨gc, C, ec⟩ w)
  clear hT
  go_enter Tryd.func5, Tryd.ntmps5
  go_wp2_with fail
  refine (small_keep HT.out hst.out.2.out.2).mono ?_
  rintro e w1 ⟨rfl, hb1⟩
  have H1 := Lib.hid (Tri.step hst.out hb1)
  clear hb1 hst
  obtain ⟨⟨r0, r1, r2, q0, q1, q2, x0, x1, x2⟩, HB⟩ := H1.out
  simp only [] at r0 r1 r2 q0 q1 q2 x0 x1 x2
  go_wp2_with fail
  refine (CFa.out _).mono ?_
  rintro e w2 ⟨rfl, hb2⟩
  have H2 := Lib.hid (Tri.step H1.out hb2)
  clear hb2 H1 r0 r1 r2 q0 q1 q2 x0 x1 x2 HB
  obtain ⟨⟨r0, r1, r2, q0, q1, q2, x0, x1, x2⟩, HB⟩ := H2.out
  simp only [] at r0 r1 r2 q0 q1 q2 x0 x1 x2
  cases Fa with
  | false =>
    go_wp2_with fail
    go_ret
    exact ⟨rfl, HB.out.2⟩
  | true =>
  go_wp2_with fail
  refine (CFb.out _).mono ?_
  rintro e w3 ⟨rfl, hb3⟩
  have H3 := Lib.hid (Tri.step H2.out hb3)
  clear hb3 H2 r0 r1 r2 q0 q1 q2 x0 x1 x2 HB
  obtain ⟨⟨r0, r1, r2, q0, q1, q2, x0, x1, x2⟩, HB⟩ := H3.out
  simp only [] at r0 r1 r2 q0 q1 q2 x0 x1 x2
  cases Fb with
  | false =>
    go_wp2_with fail
    go_ret
    exact ⟨rfl, HB.out.2⟩
  | true =>
  go_wp2_with fail
  refine (CFc.out _).mono ?_
  rintro e w4 ⟨rfl, hb4⟩
  have H4 := Lib.hid (Tri.step H3.out hb4)
  clear hb4 H3 r0 r1 r2 q0 q1 q2 x0 x1 x2 HB
  obtain ⟨⟨r0, r1, r2, q0, q1, q2, x0, x1, x2⟩, HB⟩ := H4.out
  simp only [] at r0 r1 r2 q0 q1 q2 x0 x1 x2
  cases Fc with
  | false =>
    go_wp2_with fail
    go_ret
    exact ⟨rfl, HB.out.2⟩
  | true =>
  have hla := (by simpa using hla.out : A.length ≤ 4294967296)
  have hlb := (by simpa using hlb.out : B.length ≤ 4294967296)
  have hlc := (by simpa using hlc.out : C.length ≤ 4294967296)
  obtain ⟨X, hX⟩ : ∃ X, cmpL ⟨ga, A, ea⟩ ⟨gb, B, eb⟩ = X := ⟨_, rfl⟩
  obtain ⟨Y, hY⟩ : ∃ Y, cmpL ⟨gb, B, eb⟩ ⟨gc, C, ec⟩ = Y := ⟨_, rfl⟩
  obtain ⟨Z, hZ⟩ : ∃ Z, cmpL ⟨ga, A, ea⟩ ⟨gc, C, ec⟩ = Z := ⟨_, rfl⟩
  have hXr := cmpL_range ⟨ga, A, ea⟩ ⟨gb, B, eb⟩
  have hYr := cmpL_range ⟨gb, B, eb⟩ ⟨gc, C, ec⟩
  have hZr := cmpL_range ⟨ga, A, ea⟩ ⟨gc, C, ec⟩
  have hba : cmpL ⟨gb, B, eb⟩ ⟨ga, A, ea⟩ = -X := by rw [cmpL_neg ⟨ga, A, ea⟩ ⟨gb, B, eb⟩, hX]
  have haa := cmpL_self ⟨ga, A, ea⟩
  have htr := cmpL_trans ⟨ga, A, ea⟩ ⟨gb, B, eb⟩ ⟨gc, C, ec⟩
  have heq := cmpL_eq ⟨ga, A, ea⟩ ⟨gb, B, eb⟩
  rw [hX] at hXr htr heq
  rw [hY] at hYr htr
  rw [hZ] at hZr htr
  have C1 : Hid (∀ w, Calls Tryd.prog 18 #[.agg #[.bool ga, .string (bs A), .int .i64 ea], .agg #[.bool gb, .string (bs B), .int .i64 eb]] w fun en w' => en = .returned (.int .i64 X) ∧ Below w.heap.size w w') := Lib.hid (fun w => by rw [← hX]; exact compare_any ⟨ga, A, ea⟩ ⟨gb, B, eb⟩ w hla hlb)
  have C2 : Hid (∀ w, Calls Tryd.prog 18 #[.agg #[.bool gb, .string (bs B), .int .i64 eb], .agg #[.bool gc, .string (bs C), .int .i64 ec]] w fun en w' => en = .returned (.int .i64 Y) ∧ Below w.heap.size w w') := Lib.hid (fun w => by rw [← hY]; exact compare_any ⟨gb, B, eb⟩ ⟨gc, C, ec⟩ w hlb hlc)
  have C3 : Hid (∀ w, Calls Tryd.prog 18 #[.agg #[.bool ga, .string (bs A), .int .i64 ea], .agg #[.bool gc, .string (bs C), .int .i64 ec]] w fun en w' => en = .returned (.int .i64 Z) ∧ Below w.heap.size w w') := Lib.hid (fun w => by rw [← hZ]; exact compare_any ⟨ga, A, ea⟩ ⟨gc, C, ec⟩ w hla hlc)
  have C4 : Hid (∀ w, Calls Tryd.prog 18 #[.agg #[.bool gb, .string (bs B), .int .i64 eb], .agg #[.bool ga, .string (bs A), .int .i64 ea]] w fun en w' => en = .returned (.int .i64 (-X)) ∧ Below w.heap.size w w') := Lib.hid (fun w => by rw [← hba]; exact compare_any ⟨gb, B, eb⟩ ⟨ga, A, ea⟩ w hlb hla)
  have C5 : Hid (∀ w, Calls Tryd.prog 18 #[.agg #[.bool ga, .string (bs A), .int .i64 ea], .agg #[.bool ga, .string (bs A), .int .i64 ea]] w fun en w' => en = .returned (.int .i64 0) ∧ Below w.heap.size w w') := Lib.hid (fun w => by rw [← haa]; exact compare_any ⟨ga, A, ea⟩ ⟨ga, A, ea⟩ w hla hla)
  obtain ⟨Ra, hRa⟩ : ∃ R, rightB ⟨ga, A, ea⟩ = R := ⟨_, rfl⟩
  have CRa : Hid (∀ w, Calls Tryd.prog 20 #[.agg #[.bool ga, .string (bs A), .int .i64 ea]] w fun en w' => en = .returned (.bool Ra) ∧ Below w.heap.size w w') := Lib.hid (fun w => right_num ⟨ga, A, ea⟩ w hla Ra hRa)
  obtain ⟨Rb, hRb⟩ : ∃ R, rightB ⟨gb, B, eb⟩ = R := ⟨_, rfl⟩
  have CRb : Hid (∀ w, Calls Tryd.prog 20 #[.agg #[.bool gb, .string (bs B), .int .i64 eb]] w fun en w' => en = .returned (.bool Rb) ∧ Below w.heap.size w w') := Lib.hid (fun w => right_num ⟨gb, B, eb⟩ w hlb Rb hRb)
  rw [hRa, hRb] at heq
  have HQ := Lib.hid heq; have HTr := Lib.hid htr
  clear hX hY hZ hba haa heq hRa hRb htr
  go_wp2_with fail
  refine (C1.out _).mono ?_
  rintro e w5 ⟨rfl, hb5⟩
  have H5 := Lib.hid (Tri.step H4.out hb5)
  clear hb5 H4 r0 r1 r2 q0 q1 q2 x0 x1 x2 HB
  obtain ⟨⟨r0, r1, r2, q0, q1, q2, x0, x1, x2⟩, HB⟩ := H5.out
  simp only [] at r0 r1 r2 q0 q1 q2 x0 x1 x2
  go_wp2_with fail
  refine (C2.out _).mono ?_
  rintro e w6 ⟨rfl, hb6⟩
  have H6 := Lib.hid (Tri.step H5.out hb6)
  clear hb6 H5 r0 r1 r2 q0 q1 q2 x0 x1 x2 HB
  obtain ⟨⟨r0, r1, r2, q0, q1, q2, x0, x1, x2⟩, HB⟩ := H6.out
  simp only [] at r0 r1 r2 q0 q1 q2 x0 x1 x2
  go_wp2_with fail
  refine (C3.out _).mono ?_
  rintro e w7 ⟨rfl, hb7⟩
  have H7 := Lib.hid (Tri.step H6.out hb7)
  clear hb7 H6 r0 r1 r2 q0 q1 q2 x0 x1 x2 HB
  obtain ⟨⟨r0, r1, r2, q0, q1, q2, x0, x1, x2⟩, HB⟩ := H7.out
  simp only [] at r0 r1 r2 q0 q1 q2 x0 x1 x2
  have nx : (-X != -X) = false := by simp
  have n00 : ((0 : Int) != 0) = false := by simp
  have d1 : decide (X < -1) = false := decide_eq_false (by omega)
  have d2 : decide (1 < X) = false := decide_eq_false (by omega)
  go_upto_region 8 with fail
  go_cut [71] (fun s71 wx => s71 = .bool false ∧ Hid (Tri w.heap.size ⟨ga, A, ea⟩ ⟨gb, B, eb⟩ ⟨gc, C, ec⟩ w wx))
  case first =>
    go_wp2_with fail
    refine (C4.out _).mono ?_
    rintro e w20 ⟨rfl, hb20⟩
    have H20 := Lib.hid (Tri.step H7.out hb20)
    clear hb20 r0 r1 r2 q0 q1 q2 x0 x1 x2 HB
    obtain ⟨⟨r0, r1, r2, q0, q1, q2, x0, x1, x2⟩, HB⟩ := H20.out
    simp only [] at r0 r1 r2 q0 q1 q2 x0 x1 x2
    go_wp2_with fail
    refine (C5.out _).mono ?_
    rintro e w21 ⟨rfl, hb21⟩
    have H21 := Lib.hid (Tri.step H20.out hb21)
    clear hb21 r0 r1 r2 q0 q1 q2 x0 x1 x2 HB
    by_cases hx : X ≤ 0
    · by_cases hy : Y ≤ 0
      · have hz := HTr.out hx hy
        have d3 : decide (0 < Z) = false := decide_eq_false (by omega)
        go_wp2_with fail
        go_meet
        exact ⟨rfl, H21.out⟩
      · go_wp2_with fail
        go_meet
        exact ⟨rfl, H21.out⟩
    · go_wp2_with fail
      go_meet
      exact ⟨rfl, H21.out⟩
  obtain ⟨rfl, HC8⟩ := hcut
  clear r0 r1 r2 q0 q1 q2 x0 x1 x2 HB nx n00
  obtain ⟨⟨r0, r1, r2, q0, q1, q2, x0, x1, x2⟩, HB⟩ := HC8.out
  simp only [] at r0 r1 r2 q0 q1 q2 x0 x1 x2
  go_upto_region 10 with fail
  go_cut [85] (fun s85 wx => s85 = .bool false ∧ Hid (Tri w.heap.size ⟨ga, A, ea⟩ ⟨gb, B, eb⟩ ⟨gc, C, ec⟩ w wx))
  case first =>
    go_wp2_with fail
    refine (CRa.out _).mono ?_
    rintro e w20 ⟨rfl, hb20⟩
    have H20 := Lib.hid (Tri.step HC8.out hb20)
    clear hb20 r0 r1 r2 q0 q1 q2 x0 x1 x2 HB
    obtain ⟨⟨r0, r1, r2, q0, q1, q2, x0, x1, x2⟩, HB⟩ := H20.out
    simp only [] at r0 r1 r2 q0 q1 q2 x0 x1 x2
    cases Ra with
    | false =>
      go_wp2_with fail
      go_meet
      exact ⟨rfl, H20.out⟩
    | true =>
      go_wp2_with fail
      refine (CRb.out _).mono ?_
      rintro e w21 ⟨rfl, hb21⟩
      have H21 := Lib.hid (Tri.step H20.out hb21)
      clear hb21 r0 r1 r2 q0 q1 q2 x0 x1 x2 HB
      obtain ⟨⟨r0, r1, r2, q0, q1, q2, x0, x1, x2⟩, HB⟩ := H21.out
      simp only [] at r0 r1 r2 q0 q1 q2 x0 x1 x2
      cases Rb with
      | false =>
        go_wp2_with fail
        go_meet
        exact ⟨rfl, H21.out⟩
      | true =>
        have hq : X = 0 ↔ (⟨ga, A, ea⟩ : Num) = ⟨gb, B, eb⟩ := by simpa using HQ.out
        by_cases e1 : ga = gb
        · subst e1
          by_cases e2 : A = B
          · subst e2
            by_cases e3 : ea = eb
            · subst e3
              obtain rfl : X = 0 := hq.2 rfl
              clear hq
              go_wp2_with fail
              go_meet
              exact ⟨rfl, H21.out⟩
            · have hx : (X == 0) = false := beq_eq_false_iff_ne.2 (fun h => e3 (by have := hq.1 h; injection this))
              have e4 : (ea == eb) = false := beq_eq_false_iff_ne.2 e3
              clear hq
              go_wp2_with fail
              go_meet
              exact ⟨rfl, H21.out⟩
          · have hx : (X == 0) = false := beq_eq_false_iff_ne.2 (fun h => e2 (by have := hq.1 h; injection this))
            have e3 : ¬ bs A = bs B := fun h => e2 (bs_inj h)
            have e5 : ((bs A).toList == (bs B).toList) = false := by rw [Lib.toList_data, Lib.toList_data, bs_data, bs_data]; exact beq_eq_false_iff_ne.2 e2
            have e6 : ¬ (bs A).toList = (bs B).toList := by rw [Lib.toList_data, Lib.toList_data, bs_data, bs_data]; exact e2
            clear hq
            go_wp2_with fail
            go_meet
            exact ⟨rfl, H21.out⟩
        · have hx : (X == 0) = false := beq_eq_false_iff_ne.2 (fun h => e1 (by have := hq.1 h; injection this))
          have e4 : (ga == gb) = false := beq_eq_false_iff_ne.2 e1
          clear hq
          go_wp2_with fail
          go_meet
          exact ⟨rfl, H21.out⟩
  obtain ⟨rfl, HC10⟩ := hcut
  clear r0 r1 r2 q0 q1 q2 x0 x1 x2 HB
  have hci := cmpL_ofInt i k (by omega) (by omega)
  obtain ⟨U, hU⟩ : ∃ U, Lib.compareInt i k = U := ⟨_, rfl⟩
  have hUc : (U = -1 ∧ i < k) ∨ (U = 0 ∧ i = k) ∨ (U = 1 ∧ k < i) := by
    rw [← hU]; unfold Lib.compareInt
    by_cases g1 : i < k
    · left; simp [g1]
    · by_cases g2 : k < i
      · right; right; simp [g1, g2]
      · right; left; simp [g1, g2]; omega
  rw [hU] at hci
  have hri := rightB_bd (ofInt_rightB i (by omega))
  have hrk := rightB_bd (ofInt_rightB k (by omega))
  have hb10 := HC10.out.2.out.2
  have O1 := Lib.hid (of_any i _ hi (HT.out.keep hb10))
  obtain ⟨ni, hni⟩ : ∃ n, ofInt i = n := ⟨_, rfl⟩
  obtain ⟨nk, hnk⟩ : ∃ n, ofInt k = n := ⟨_, rfl⟩
  have O2 : Hid (∀ w1, PTab w1 → Calls Tryd.prog 21 #[.int .i64 k] w1 fun e w' => e = .returned (.agg #[.bool nk.neg, .string (bs nk.dig), .int .i64 nk.exp]) ∧ Below w1.heap.size w1 w') :=
    Lib.hid (fun w1 h => by rw [← hnk]; exact of_any k w1 hk h)
  rw [hni, hnk] at hci
  rw [hni] at hri O1
  rw [hnk] at hrk
  have O3 : Hid (∀ w1, Calls Tryd.prog 18 #[.agg #[.bool ni.neg, .string (bs ni.dig), .int .i64 ni.exp], .agg #[.bool nk.neg, .string (bs nk.dig), .int .i64 nk.exp]] w1 fun e w' => e = .returned (.int .i64 U) ∧ Below w1.heap.size w1 w') :=
    Lib.hid (fun w1 => by rw [← hci]; exact compare_any ni nk w1 (by omega) (by omega))
  have HB10 := Lib.hid hb10
  clear hni hnk hci hU hri hrk HC10 hb10
  go_wp2_with fail
  refine O1.out.mono ?_
  unfold numV
  rintro e w30 ⟨rfl, hb30⟩
  have HB30 := Lib.hid (HB10.out.trans (hb30.mono HB10.out.size)); clear hb30
  go_wp2_with fail
  refine (O2.out _ (HT.out.keep HB30.out)).mono ?_
  rintro e w31 ⟨rfl, hb31⟩
  have HB31 := Lib.hid (HB30.out.trans (hb31.mono HB30.out.size)); clear hb31
  go_wp2_with fail
  refine (O3.out _).mono ?_
  rintro e w32 ⟨rfl, hb32⟩
  have HB32 := Lib.hid (HB31.out.trans (hb32.mono HB31.out.size)); clear hb32
  rcases hUc with ⟨rfl, hlt⟩ | ⟨rfl, rfl⟩ | ⟨rfl, hlt⟩
  · have t1 : decide (i < k) = true := decide_eq_true hlt
    have t2 : (i == k) = false := beq_eq_false_iff_ne.2 (by omega)
    go_wp2_with fail
    go_ret
    exact ⟨rfl, HB32.out⟩
  · go_wp2_with fail
    go_ret
    exact ⟨rfl, HB32.out⟩
  · have t1 : decide (i < k) = false := decide_eq_false (by omega)
    have t2 : (i == k) = false := beq_eq_false_iff_ne.2 (by omega)
    go_wp2_with fail
    go_ret
    exact ⟨rfl, HB32.out⟩
end Go.Proofs.YtpfkdnhjideflaaDoor
