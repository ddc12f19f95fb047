import Derived.Test.YtbbjgdnbekoaeaaDoorLexJ
/-! The walk of the law LexJoins. -/
namespace Go.Proofs.YtbbjgdnbekoaeaaDoor
set_option linter.unusedSimpArgs false
set_option linter.unusedVariables false
open Go.RowKit
open Go.Lib hiding intOf

set_option maxRecDepth 100000 in
set_option maxHeartbeats 8000000 in
theorem lexJoins_any (s t : ByteArray) (w : World) (hs : s.size ≤ 140737488351232) (ht : t.size ≤ 140737488351232) (hV : SVar w) (hT : Tabs w) :
    Calls Tryd.prog 4 #[.string s, .string t] w fun e w' => e = .returned (.bool true) ∧ Below w.heap.size w w' := by
  have C0 := Lib.hid (fun w hV hT => lsmall_any w hV hT)
  have HV := Lib.hid hV; have HT := Lib.hid hT; clear hV hT
  obtain ⟨a, rfl⟩ : ∃ l, s = bs l := ⟨s.data.toList, (bs_of s).symm⟩
  obtain ⟨b, rfl⟩ : ∃ l, t = bs l := ⟨t.data.toList, (bs_of t).symm⟩
  have sa := bs_size a
  have sb := bs_size b
  have hsum : (a.length : Int) + (b.length : Int) ≤ 281474976702464 := by omega
  by_cases hlong : 2048 < a.length + b.length
  · have d1 : decide (2048 < (a.length : Int) + (b.length : Int)) = true := decide_eq_true (by omega)
    have d2 : decide (2048 < a.length + b.length) = true := decide_eq_true hlong
    clear hlong
    go_enter Tryd.func4, Tryd.ntmps4
    go_wp2_with fail
    with_reducible refine (C0.out _ HV.out HT.out).mono ?_
    rintro e w1 ⟨rfl, hb⟩
    have HB1 := Lib.hid hb; clear hb
    go_wp2_with fail
    go_ret
    exact ⟨rfl, HB1.out⟩
  have d1 : decide (2048 < (a.length : Int) + (b.length : Int)) = false := decide_eq_false (by omega)
  have d2 : decide (2048 < a.length + b.length) = false := decide_eq_false hlong
  have hj := fun h => toksL_join a b h (by omega)
  have hex : bs a ++ ⟨#[44]⟩ ++ bs b = bs (a ++ 44 :: b) := by
    have e : (⟨#[44]⟩ : ByteArray) = bs [44] := rfl
    rw [e, bs_append, bs_append]; simp
  obtain ⟨R1, hR1⟩ : ∃ R, toksL a = R := ⟨_, rfl⟩
  obtain ⟨R2, hR2⟩ : ∃ R, toksL b = R := ⟨_, rfl⟩
  obtain ⟨R3, hR3⟩ : ∃ R, toksL (a ++ 44 :: b) = R := ⟨_, rfl⟩
  have T1 := Lib.hid (fun w hV hT => tokens_at a R1 hR1 w (by omega) hV hT)
  have T2 := Lib.hid (fun w hV hT => tokens_at b R2 hR2 w (by omega) hV hT)
  have T3 := Lib.hid (fun w hV hT => tokens_at (a ++ 44 :: b) R3 hR3 w (by simp; omega) hV hT)
  have k1 := toks_len a
  have k2 := toks_len b
  rw [hR1] at hj k1
  have kn2 : 0 ≤ (toksL b).2.1 ∧ (toksL b).2.1 ≤ 2048 := by
    rcases toks_cases b with ⟨h, _⟩ | ⟨_, _, h1, h2⟩
    · rw [h]; simp only []; omega
    · omega
  have hub : ∀ (k : Nat) (u : Tok), (toksL b).1[k]? = some u → u.sf ≤ 2048 ∧ u.st ≤ 2048 := by
    intro k u hu
    rcases toks_cases b with ⟨_, hch, _⟩ | ⟨_, h0, _, _⟩
    · exact chain_bd hch u (List.mem_of_getElem? hu) (by omega)
    · rw [h0] at hu; simp at hu
  rw [hR2] at hj k2 kn2 hub
  rw [hR3] at hj
  clear hR1 hR2 hR3
  obtain ⟨ts1, n1, r1⟩ := R1
  obtain ⟨ts2, n2, r2⟩ := R2
  obtain ⟨ts3, n3, r3⟩ := R3
  simp only [] at hj k1 k2 kn2
  simp only [] at hub
  have HUB := Lib.hid hub
  clear hub
  have HJ := Lib.hid hj
  clear hj
  have sab : (bs (a ++ 44 :: b)).size = a.length + 1 + b.length := by rw [bs_size]; simp; omega
  go_enter Tryd.func4, Tryd.ntmps4
  go_wp2_with fail
  with_reducible refine (C0.out _ HV.out HT.out).mono ?_
  rintro e w1 ⟨rfl, hb⟩
  have HB := Lib.hid hb; clear hb
  go_wp2_with fail
  with_reducible refine (T1.out _ (HV.out.keep HB.out) (HT.out.keep HB.out)).mono ?_
  rintro e w2 ⟨v1, rfl, hv1, hb⟩
  dsimp only at hv1 ⊢
  have HB := Lib.hid (below_of_new HB.out hb); clear hb
  have H1 := Lib.hid hv1; clear hv1
  go_wp2_with fail
  with_reducible refine (T2.out _ (HV.out.keep HB.out) (HT.out.keep HB.out)).mono ?_
  rintro e w3 ⟨v2, rfl, hv2, hb⟩
  dsimp only at hv2 ⊢
  have HB := Lib.hid (below_of_new HB.out hb)
  have H1 := Lib.hid (H1.out.keep hb); clear hb
  have H2 := Lib.hid hv2; clear hv2
  go_wp2_with fail
  with_reducible refine (T3.out _ (HV.out.keep HB.out) (HT.out.keep HB.out)).mono ?_
  rintro e w4 ⟨v3, rfl, hv3, hb⟩
  dsimp only at hv3 ⊢
  have HB := Lib.hid (below_of_new HB.out hb)
  have H1 := Lib.hid (H1.out.keep hb)
  have H2 := Lib.hid (H2.out.keep hb); clear hb
  have H3 := Lib.hid hv3; clear hv3
  clear C0 T1 T2 T3
  by_cases he1 : r1 = 0
  · subst he1
    have hj := HJ.out rfl
    by_cases he2 : r2 = 0
    · subst he2
      rw [if_pos rfl] at hj
      simp only [Prod.mk.injEq] at hj
      obtain ⟨h31, h32, h33⟩ := hj
      subst h31 h32 h33
      clear HJ
      go_upto_region 11 with fail
      obtain ⟨i0, hi0, hz0, hz1, hz2⟩ := info_parts Tryd.infoTok
      have hB0 : Below w4.heap.size w4 (w4.alloc (.cells #[] 30)) := below_alloc1 w4 _
      have hE0 : (w4.alloc (.cells #[] 30)).ownsRow w4.heap.size 30 3 (.slice (some ⟨w4.heap.size, 0, none⟩) 0 0) 0 [] := ⟨rfl, .inr ⟨w4.heap.size, 0, #[], rfl, Nat.le_refl _, heap_alloc_new w4 _, Nat.le_refl _, by unfold maxLen; omega, rfl, rfl⟩⟩
      go_cut [15] (fun s15 wx => Hid (OwnsToks w4.heap.size wx s15 ts1 ∧ Below w4.heap.size w4 wx))
      case first =>
        as_aux_lemma =>
          rcases H1.out with ⟨rfl, rfl⟩ | ⟨g1, c1, rfl, hg1, ha1⟩
          · go_wp2_with fail
            go_meet
            exact ⟨hE0, hB0⟩
          · have hl1 : ts1.length ≤ 65537 := k1
            have hs1 : (w4.alloc (.cells #[] 30)).heap.size = w4.heap.size + 1 := by simp
            have ha2 : ∀ j u, (tokCells ts1)[j]? = some u → (w4.alloc (.cells #[] 30)).cell? ((⟨g1, 0, none⟩ : Addr).add j) = some u := fun j u hj => by
              rw [addr_add, World.cell?_alloc_past _ _ _ hg1]
              exact tokAt_cells ha1 j u hj
            have hlen : (tokCells ts1).length = ts1.length * 3 := tokCells_len ts1
            have hone : ∀ u ∈ tokCells ts1, u.oneCell' = true := tokCells_one ts1
            have HX := Lib.hid (And.intro ha2 (And.intro hlen hone))
            clear ha2 hlen hone hs1
            go_wp2_with (at_builtin; go_must (refine wpList_append_own _ rfl _ _ 23 rfl w4.heap.size 30 i0 _ 3 24 Tryd.underlying23 hi0 hz0 hz1 hz2 rfl (by decide) (.slice (some ⟨w4.heap.size, 0, none⟩) 0 0) 0 [] rfl hE0 ⟨g1, 0, none⟩ ts1.length c1 (tokCells ts1) rfl HX.out.2.1 HX.out.1 HX.out.2.2 (by unfold maxLen; omega) (by omega) (by simp) ?_); intro v' w' hown hgrow _)
            go_meet
            rw [Nat.zero_add, List.nil_append] at hown
            exact ⟨hown, hB0.grown hgrow (by simp) (fun k hk => by simp [Value.ownBlock] at hk; omega)⟩
      have HO := hcut
      clear hE0 hB0 hcut
      go_upto_region 12 with fail
      go_cut [15] (fun s15 wx => Hid (OwnsToks w4.heap.size wx s15 (ts1 ++ [⟨6, a.length, a.length + 1⟩]) ∧ Below w4.heap.size w4 wx))
      case first =>
        as_aux_lemma =>
          go_wp2_with (at_builtin; go_must (refine wpList_push rfl _ _ 23 rfl w4.heap.size 30 i0 _ 3 24 Tryd.underlying23 hi0 hz0 hz1 hz2 rfl (by decide) wc u15 ts1.length (tokCells ts1) rfl HO.out.1 #[.int .i64 6, .int .i64 a.length, .int .i64 ((a.length : Int) + 1)] rfl rfl (by simp [Value.oneCell']) (by omega) (by decide) HO.out.2.size ?_); intro v1' w1' hown1 hsz1 hbel1 hkeep1 hne1)
          go_meet
          exact ⟨OwnsToks.snoc hown1, HO.out.2.trans hbel1⟩
      have HO := hcut
      clear hcut
      have hK2 : Hid (∀ wx, Below w4.heap.size w4 wx → ToksV wx v2 ts2 ∧ ToksV wx v3 (ts1 ++ ⟨6, a.length, a.length + 1⟩ :: ts2.map (moveT (a.length + 1)))) := Lib.hid (fun wx h => ⟨H2.out.keep h, H3.out.keep h⟩)
      have hv2s : ∃ p c, v2 = .slice p ts2.length c := by
        rcases H2.out with ⟨h1, h2⟩ | ⟨g, c, h, _⟩
        · exact ⟨_, _, by rw [h2, h1]; rfl⟩
        · exact ⟨_, _, h⟩
      obtain ⟨p2, c2, rfl⟩ := hv2s
      have hk3 : ts1.length + ts2.length ≤ 131074 := by omega
      go_wp2_with fail
      go_loopw [15, 16] (fun s15 s16 wr => ∃ k : Nat, s16 = .int .i64 k ∧ k ≤ ts2.length ∧ Hid (OwnsToks w4.heap.size wr s15 ((ts1 ++ [⟨6, a.length, a.length + 1⟩]) ++ (ts2.take k).map (moveT (a.length + 1))) ∧ Below w4.heap.size w4 wr)) (fun _ s16 _ => ts2.length - (RowKit.intOf s16).toNat)
      case atStart => exact ⟨0, rfl, by omega, by rw [List.take_zero, List.map_nil, List.append_nil]; exact HO⟩
      case round =>
        obtain ⟨k, rfl, hk, HR⟩ := hrel
        by_cases hlt : k < ts2.length
        · obtain ⟨u, hu⟩ : ∃ u, ts2[k]? = some u := ⟨_, List.getElem?_eq_getElem hlt⟩
          obtain ⟨g2, c2', hv, hg2, ha2⟩ := (hK2.out wr HR.out.2).1.resolve_left (fun h => by rw [h.1] at hlt; exact absurd hlt (Nat.not_lt_zero _))
          obtain ⟨rfl, _, rfl⟩ : p2 = some ⟨g2, 0, none⟩ ∧ True ∧ c2 = c2' := by
            simp only [Value.slice.injEq] at hv
            exact ⟨hv.1, trivial, hv.2.2⟩
          obtain ⟨d0, d1', d2'⟩ := ha2 k u hu
          have hsn : Hid (((ts1 ++ [⟨6, a.length, a.length + 1⟩]) ++ (ts2.take k).map (moveT (a.length + 1))) ++ [moveT (a.length + 1) u] = (ts1 ++ [⟨6, a.length, a.length + 1⟩]) ++ (ts2.take (k + 1)).map (moveT (a.length + 1))) := Lib.hid (by
            have e : ts2.take (k + 1) = ts2.take k ++ [u] := by
              rw [List.take_succ_eq_append_getElem hlt]
              rw [List.getElem?_eq_getElem hlt] at hu
              rw [Option.some.inj hu]
            rw [e, List.map_append, ← List.append_assoc]; rfl)
          have hll : (ts1 ++ [(⟨6, a.length, a.length + 1⟩ : Tok)] ++ (ts2.take k).map (moveT (a.length + 1))).length ≤ 4294967296 := by simp; omega
          have HLL := Lib.hid hll
          obtain ⟨ukd, hukd⟩ : ∃ x : Int, (u.kind : Int) = x := ⟨_, rfl⟩
          obtain ⟨usf, husf⟩ : ∃ x : Int, (u.sf : Int) = x := ⟨_, rfl⟩
          obtain ⟨ust, hust⟩ : ∃ x : Int, (u.st : Int) = x := ⟨_, rfl⟩
          have hub := HUB.out k u hu
          rw [hukd] at d0
          rw [husf] at d1'
          rw [hust] at d2'
          have hu1 : 0 ≤ usf := by omega
          have hu2 : usf ≤ 65536 := by omega
          have hu3 : 0 ≤ ust := by omega
          have hu4 : ust ≤ 65536 := by omega
          have hal : (a.length : Int) ≤ 2048 := by omega
          have wsf : IntKind.i64.wrap (usf + (a.length : Int)) = usf + (a.length : Int) := by rw [IntKind.wrap_i64]; omega
          have wst : IntKind.i64.wrap (ust + (a.length : Int)) = ust + (a.length : Int) := by rw [IntKind.wrap_i64]; omega
          have wsf1 : IntKind.i64.wrap (usf + (a.length : Int) + 1) = usf + (a.length : Int) + 1 := by rw [IntKind.wrap_i64]; omega
          have wst1 : IntKind.i64.wrap (ust + (a.length : Int) + 1) = ust + (a.length : Int) + 1 := by rw [IntKind.wrap_i64]; omega
          have hcs : (#[Value.int .i64 ukd, Value.int .i64 (usf + (a.length : Int) + 1), Value.int .i64 (ust + (a.length : Int) + 1)] : Array Value).toList = [.int .i64 (moveT (a.length + 1) u).kind, .int .i64 (moveT (a.length + 1) u).sf, .int .i64 (moveT (a.length + 1) u).st] := by
            unfold moveT
            simp only [hukd]
            rw [show ((u.sf + (a.length + 1) : Nat) : Int) = usf + (a.length : Int) + 1 by omega, show ((u.st + (a.length + 1) : Nat) : Int) = ust + (a.length : Int) + 1 by omega]
          have HCS := Lib.hid hcs
          clear hcs
          obtain ⟨TS, hTS⟩ : ∃ TS, (ts1 ++ [⟨6, a.length, a.length + 1⟩] ++ (ts2.take k).map (moveT (a.length + 1))) = TS := ⟨_, rfl⟩
          obtain ⟨MV, hMV⟩ : ∃ MV, moveT (a.length + 1) u = MV := ⟨_, rfl⟩
          have HD : Hid (OwnsToks w4.heap.size wr.drew u15 TS) := Lib.hid (by rw [← hTS]; exact HR.out.1)
          rw [hTS] at HLL hsn
          rw [hMV] at HCS hsn
          clear hTS hMV
          have hlz : (k : Int) < (ts2.length : Int) := by omega
          have HZ := Lib.hid HR.out.2.size
          clear hll
          clear hukd husf hust hu hub hv ha2 hg2 hu1 hu2 hu3 hu4
          go_wp2_with fail
          go_region_law ((refine step_toks (by rfl) (.tmp 85) (.tmp 113) (by rfl) w4.heap.size wr.drew u15 TS MV (by rfl) HD.out #[.int .i64 ukd, .int .i64 (usf + (a.length : Int) + 1), .int .i64 (ust + (a.length : Int) + 1)] (by rfl) HCS.out HLL.out HZ.out ?_; intro v1' w1' hown1 hbel1))
          all_goals
            go_wp2_with fail
            go_roundw
            case rel => exact ⟨k + 1, by go_num, by omega, by rw [← hsn.out]; exact hown1, HR.out.2.drew.trans hbel1⟩
            case measure => simp [RowKit.intOf]; omega
        · have hke : k = ts2.length := by omega
          have HF : Hid (ToksV wr u15 (ts1 ++ ⟨6, a.length, a.length + 1⟩ :: ts2.map (moveT (a.length + 1)))) := Lib.hid (by
            have h := HR.out.1
            rw [hke, List.take_length, List.append_assoc] at h
            exact h.toV (by simp))
          have CS := Lib.hid (sameT_yes (ts1 ++ ⟨6, a.length, a.length + 1⟩ :: ts2.map (moveT (a.length + 1))) v3 u15 wr (hK2.out wr HR.out.2).2 HF.out (by simp; omega))
          have HKE := Lib.hid hke
          clear hke
          go_wp2_with fail
          with_reducible refine CS.out.mono ?_
          rintro e w6 ⟨rfl, hb⟩
          have HB6 := Lib.hid ((HB.out.trans (HR.out.2.mono HB.out.size)).trans (hb.mono (Nat.le_trans HB.out.size HR.out.2.size)))
          clear hb
          go_wp2_with fail
          go_ret
          exact ⟨rfl, HB6.out⟩
    · rw [if_neg he2] at hj
      simp only [Prod.mk.injEq] at hj
      obtain ⟨h31, h32, h33⟩ := hj
      have h34 : n3 = (a.length : Int) + 1 + n2 := by omega
      have te : (r2 != 0) = true := bne_iff_ne.2 he2
      clear h32
      subst h31 h34 h33
      have hn2a := kn2.1
      have hn2b := kn2.2
      clear HJ he2
      go_wp2_with fail
      go_ret
      exact ⟨rfl, HB.out⟩
  · have te : (r1 != 0) = true := bne_iff_ne.2 he1
    clear he1
    go_wp2_with fail
    go_ret
    exact ⟨rfl, HB.out⟩
end Go.Proofs.YtbbjgdnbekoaeaaDoor
