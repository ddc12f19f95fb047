import Derived.Test.YtmghlaajocgoaaaGreatDoorJsS
/-! The walk of JsonPaths. -/
namespace Go.Proofs.YtmghlaajocgoaaaGreatDoor
set_option linter.unusedSimpArgs false
set_option linter.unusedVariables false
open Go.RowKit Go.Maps Go.WideMaps
open Go.Lib hiding intOf

theorem endP_len (l : List UInt8) (lv : Nat) (ts : List Tok) (hts : ts.length ≤ 65536) : (endP l.length (valueM l lv ts (0, 0) [] (0, 0))).1.length ≤ 65536 := by
  cases hR : valueM l lv ts (0, 0) [] (0, 0) with
  | bad a er => simp [endP]
  | ok rr l2 ns =>
    obtain ⟨more, hne, hm1, hm2, _⟩ := value_ext l lv _ _ _ _ _ _ _ hR
    cases rr with
    | nil => rw [List.nil_append] at hne; subst hne; show ns.length ≤ _; simp only [List.length_nil] at hm2; omega
    | cons t rr => simp [endP]
theorem parse_len (l : List UInt8) : (parseJ l).1.length ≤ 65536 := by
  have hp : parseJ l = if (toksL l).2.2 ≠ 0 then ([], (toksL l).2.1, (toksL l).2.2) else
    endP l.length (valueM l 32 (noBlank (toksL l).1) (0, 0) [] (0, 0)) := by
    unfold parseJ noBlank endP
    rfl
  rw [hp]
  split
  · simp
  · exact endP_len l 32 _ (Nat.le_trans (List.length_filter_le _ _) (toksL_tb l).1)
/-- What stays while the last line runs. -/
abbrev PthS (W : World) (D X : Nat) (txt : ByteArray) (p : Option Addr) (n c : Nat) (a b : Int) (w' : World) : Prop := w'.cell? ⟨D, 0, none⟩ = some (.string txt) ∧ w'.cell? ⟨D, 1, none⟩ = some (.slice p n c) ∧ w'.cell? ⟨X, 0, none⟩ = some (.int .i64 a) ∧ w'.cell? ⟨X, 1, none⟩ = some (.int .i64 b) ∧ Hid (Below W.heap.size W w')
theorem PthS.drew {W w' : World} {D X : Nat} {txt : ByteArray} {p : Option Addr} {n c : Nat} {a b : Int} (h : PthS W D X txt p n c a b w') : PthS W D X txt p n c a b w'.drew :=
  ⟨h.1, h.2.1, h.2.2.1, h.2.2.2.1, Lib.hid h.2.2.2.2.out.drew⟩
theorem PthS.step {W w' w2 : World} {D X : Nat} {txt : ByteArray} {p : Option Addr} {n c : Nat} {a b : Int} (h : PthS W D X txt p n c a b w') (hb : Below w'.heap.size w' w2) : PthS W D X txt p n c a b w2 :=
  ⟨cell_keep h.1 hb, cell_keep h.2.1 hb, cell_keep h.2.2.1 hb, cell_keep h.2.2.2.1 hb, Lib.hid (below_of_new h.2.2.2.2.out hb)⟩
set_option maxRecDepth 100000 in
set_option maxHeartbeats 8000000 in
theorem jsonPaths_any (s : ByteArray) (at_ a b : Int) (w : World) (hs : s.size ≤ 140737488351232) (hV : SVar w) (hT : Tabs w) :
    Calls Tryz.prog 8 #[.string s, .int .i64 at_, .agg #[.int .i64 a, .int .i64 b]] w fun e w' => e = .returned (.bool true) ∧ Below w.heap.size w w' := by
  have C0 := Lib.hid (fun w hV hT => jsmall_any w hV hT)
  obtain ⟨l, rfl⟩ : ∃ l, s = bs l := ⟨s.data.toList, (bs_of s).symm⟩
  have sl := bs_size l
  rw [sl] at hs
  obtain ⟨R, hR⟩ : ∃ R, parseJ l = R := ⟨_, rfl⟩
  have CP := Lib.hid (fun w hV hT => parse_read l R hR w (by omega) hV hT)
  have hN := parse_len l
  rw [hR] at hN
  clear hR
  obtain ⟨nodes, n, er⟩ := R
  simp only [] at hN
  have b0 := below_alloc1 w (.cells #[.int .i64 a, .int .i64 b] 33)
  have hX := heap_alloc_new w (.cells #[.int .i64 a, .int .i64 b] 33)
  have HB0 := Lib.hid b0
  have HX0 := Lib.hid hX
  have HV := Lib.hid (hV.keep b0)
  have HT := Lib.hid (hT.keep b0)
  clear hV hT b0 hX
  by_cases hbig : 4096 < l.length
  · have dB : decide ((4096 : Int) < (l.length : Int)) = true := decide_eq_true (by omega)
    go_enter Tryz.func8, Tryz.ntmps8
    go_wp2_with fail
    with_reducible refine (C0.out _ HV.out HT.out).mono ?_
    rintro e w1 ⟨rfl, hb⟩
    have HB1 := Lib.hid (below_of_new HB0.out hb); clear hb
    go_wp2_with fail
    go_ret
    exact ⟨rfl, HB1.out⟩
  have dB : decide ((4096 : Int) < (l.length : Int)) = false := decide_eq_false (by omega)
  go_enter Tryz.func8, Tryz.ntmps8
  go_wp2_with fail
  with_reducible refine (C0.out _ HV.out HT.out).mono ?_
  rintro e w1 ⟨rfl, hb⟩
  have HB1 := Lib.hid (below_of_new HB0.out hb)
  have HX1 : Hid (w1.heap[w.heap.size]? = some (.cells #[.int .i64 a, .int .i64 b] 33)) := Lib.hid ((hb.block _ (cell_it HX0.out)).trans HX0.out)
  have HV1 := Lib.hid (HV.out.keep hb)
  have HT1 := Lib.hid (HT.out.keep hb)
  clear hb HB0 HX0 HV HT
  go_wp2_with fail
  with_reducible refine (CP.out _ HV1.out HT1.out).mono ?_
  rintro e w2 ⟨p, c, rfl, hn, hb⟩
  dsimp only at hn ⊢
  have HB2 := Lib.hid (below_of_new HB1.out hb)
  have HX2 : Hid (w2.heap[w.heap.size]? = some (.cells #[.int .i64 a, .int .i64 b] 33)) := Lib.hid ((hb.block _ (cell_it HX1.out)).trans HX1.out)
  have HN2 := Lib.hid hn
  clear hb hn HB1 HX1 HV1 HT1 C0 CP
  obtain ⟨txt, htx⟩ : ∃ t, bs (docT l nodes) = t := ⟨_, rfl⟩
  rw [htx]
  by_cases he : er = 0
  case neg =>
    have dE : (er != 0) = true := bne_iff_ne.2 he
    go_wp2_with fail
    go_ret
    exact ⟨rfl, HB2.out.alloc HB2.out.size _⟩
  subst he
  clear htx
  obtain ⟨D, hD⟩ : ∃ D, w2.heap.size = D := ⟨_, rfl⟩
  have b3 := below_alloc1 w2 (.cells #[.string txt, .slice p nodes.length c] 25)
  have hd3 : (w2.alloc (.cells #[.string txt, .slice p nodes.length c] 25)).heap[D]? = some (.cells #[.string txt, .slice p nodes.length c] 25) := by rw [← hD]; exact heap_alloc_new w2 _
  have hx3 := (b3.block _ (cell_it HX2.out)).trans HX2.out
  go_upto_region 7 with fail
  obtain ⟨W3, hW3⟩ : ∃ W, w2.alloc (.cells #[.string txt, .slice p nodes.length c] 25) = W := ⟨_, rfl⟩
  rw [hW3] at b3 hd3 hx3
  rw [hW3]
  have HB3 := Lib.hid (below_of_new HB2.out b3)
  have HN3 := Lib.hid (HN2.out.keep b3)
  have HD3 := Lib.hid hd3
  have HX3 := Lib.hid hx3
  obtain ⟨y0, y1⟩ := cells_at2 hd3
  obtain ⟨L, hL⟩ : ∃ L, pathT nodes at_ nodes.length = L := ⟨_, rfl⟩
  have C15 := jpath_any txt p c nodes at_ W3 HN3.out hN
  have C16 : Hid (∀ w', Below W3.heap.size W3 w' → Calls Tryz.prog 16 #[.agg #[.string txt, .slice p nodes.length c], .int .i64 at_] w' (PathE L w')) := Lib.hid (fun w' hb => by
    have := rpath_any txt p c nodes at_ w' (HN3.out.keep hb) hN
    rw [hL] at this
    exact this)
  rw [hL] at C15
  have H15 := Lib.hid C15
  have hLl : L.length ≤ 65536 := by rw [← hL]; exact Nat.le_trans (pathT_len _ _ _) hN
  clear C15 hL b3 hd3 hx3 HN2 HB2 HX2 hW3 hD HN3
  go_wp2_with fail
  refine H15.out.mono ?_
  rintro e w4 ⟨p4, c4, rfl, hi4, hb4⟩
  have HI4 := Lib.hid hi4
  have HB4 := Lib.hid hb4
  obtain ⟨z0, z1⟩ := cells_at2 ((hb4.block _ (cell_it HD3.out)).trans HD3.out)
  clear hi4 hb4 H15 y0 y1
  go_wp2_with fail
  refine (C16.out _ HB4.out).mono ?_
  rintro e w5 ⟨p5, c5, rfl, hi5, hb5⟩
  have HI5 := Lib.hid hi5
  have HI45 := Lib.hid (HI4.out.keep hb5)
  have HB5 : Hid (Below W3.heap.size W3 w5) := Lib.hid (below_of_new HB4.out hb5)
  clear hi5 hb5 C16 z0 z1 HI4 HB4
  have dl : ((L.length : Int) != (L.length : Int)) = false := by simp
  go_wp2_with fail
  go_loopw [15] (fun s15 wr => ∃ (k : Nat), s15 = .int .i64 (k : Int) ∧ k ≤ L.length ∧ Hid (Below w5.heap.size w5 wr)) (fun s15 _ => L.length - (RowKit.intOf s15).toNat)
  case atStart => exact ⟨0, rfl, by omega, Lib.hid (Below.refl _ _)⟩
  case round =>
    obtain ⟨k, rfl, hk, HBr⟩ := hrel
    by_cases hkl : k < L.length
    · obtain ⟨x, hx⟩ : ∃ x, L[k]? = some x := ⟨_, List.getElem?_eq_getElem hkl⟩
      obtain ⟨pa, ca, ea, fa⟩ := HI45.out.keep HBr.out
      obtain ⟨pb, cb, eb, fb⟩ := HI5.out.keep HBr.out
      injection ea with ea1 _ ea2
      injection eb with eb1 _ eb2
      subst ea1 eb1
      obtain ⟨ga, rfl, qa⟩ := fa k x hx
      obtain ⟨gb, rfl, qb⟩ := fb k x hx
      have hk0 : (0 : Int) ≤ (k : Int) := by omega
      have hk1 : (k : Int) < (L.length : Int) := by omega
      have dk : decide ((k : Int) < (L.length : Int)) = true := decide_eq_true hk1
      obtain ⟨k1, hk1e⟩ : ∃ k1, k + 1 = k1 := ⟨_, rfl⟩
      have hk1z : (k : Int) + 1 = (k1 : Int) := by omega
      have hkk : k1 ≤ L.length := by omega
      have HB6 : Hid (Below w5.heap.size w5 wr.drew) := Lib.hid HBr.out.drew
      clear fa fb
      go_upto_region 14 with fail
      go_region
      all_goals
        go_wp2_with fail
        go_roundw
        · exact ⟨k1, by rw [← hk1z], hkk, HB6⟩
        · (try simp only [RowKit.intOf]); omega
    · obtain rfl : k = L.length := by omega
      have dk : decide ((L.length : Int) < (L.length : Int)) = false := decide_eq_false (by omega)
      have hbr : Below W3.heap.size W3 wr := below_of_new HB5.out HBr.out
      obtain ⟨z0, z1⟩ := cells_at2 ((hbr.block _ (cell_it HD3.out)).trans HD3.out)
      obtain ⟨u0, u1⟩ := cells_at2 ((hbr.block _ (cell_it HX3.out)).trans HX3.out)
      have hS : PthS wr D w.heap.size txt p nodes.length c a b wr := ⟨z0, z1, u0, u1, Lib.hid (Below.refl _ _)⟩
      have HB6 : Hid (Below w.heap.size w wr) := Lib.hid (below_of_new HB3.out hbr)
      have CJ := Lib.hid (fun w => jslice_any txt (.slice p nodes.length c) rfl a b w)
      have CR := Lib.hid (fun w => rslice_any txt (.slice p nodes.length c) rfl a b w)
      obtain ⟨Z, hZ⟩ : ∃ Z, sliceB txt a b = Z := ⟨_, rfl⟩
      rw [hZ] at CJ CR
      clear hbr hZ HX3 HD3 z0 z1 u0 u1
      go_upto_region 16 with fail
      go_region_held3 (fun w' => PthS wr D w.heap.size txt p nodes.length c a b w') ((first | exact PthS.drew (by assumption) | exact PthS.step (by assumption) (by assumption) | assumption))
        ((first
          | (go_at_call 14; (with_reducible refine (CJ.out _).mono ?_); rintro e w6 ⟨rfl, hb6⟩)
          | (go_at_call 17; (with_reducible refine (CR.out _).mono ?_); rintro e w6 ⟨rfl, hb6⟩)))
      have HL := Lib.hid (by assumption : PthS wr D w.heap.size txt p nodes.length c a b w6)
      go_wp2_with fail
      go_ret
      exact ⟨rfl, below_of_new HB6.out HL.out.2.2.2.2.out⟩
end Go.Proofs.YtmghlaajocgoaaaGreatDoor
