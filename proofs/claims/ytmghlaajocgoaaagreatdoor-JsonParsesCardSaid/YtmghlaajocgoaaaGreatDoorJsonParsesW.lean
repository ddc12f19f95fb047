import Derived.Test.YtmghlaajocgoaaaGreatDoorRj6
import Derived.Test.YtmghlaajocgoaaaGreatDoorJsP
/-! The walk of JsonParses. -/
namespace Go.Proofs.YtmghlaajocgoaaaGreatDoor
set_option linter.unusedSimpArgs false
set_option linter.unusedVariables false
set_option linter.unnecessarySimpa false
open Go.RowKit Go.Maps Go.WideMaps
open Go.Lib hiding intOf

theorem endP_lim (l : List UInt8) (lv : Nat) (ts : List Tok) (hts : ts.length ≤ 65536) : (endP l.length (valueM l lv ts (0, 0) [] (0, 0))).1.length ≤ 65536 ∧ ∀ y ∈ (endP l.length (valueM l lv ts (0, 0) [] (0, 0))).1, y.kids.length ≤ 65536 ∧ y.pcs.length ≤ 65536 := by
  cases hR : valueM l lv ts (0, 0) [] (0, 0) with
  | bad a er => simp [endP]
  | ok rr l2 ns =>
    obtain ⟨more, hne, hm1, hm2, hm3⟩ := value_ext l lv _ _ _ _ _ _ _ hR
    cases rr with
    | nil =>
      rw [List.nil_append] at hne
      subst hne
      simp only [List.length_nil] at hm2
      refine ⟨show ns.length ≤ _ by omega, fun y hy => ?_⟩
      have := hm3.2 y hy
      omega
    | cons t rr => simp [endP]
theorem parse_lim (l : List UInt8) : (parseJ l).1.length ≤ 65536 ∧ ∀ y ∈ (parseJ l).1, y.kids.length ≤ 65536 ∧ y.pcs.length ≤ 65536 := by
  have hp : parseJ l = if (toksL l).2.2 ≠ 0 then ([], (toksL l).2.1, (toksL l).2.2) else
    endP l.length (valueM l 32 (noBlank (toksL l).1) (0, 0) [] (0, 0)) := by
    unfold parseJ noBlank endP
    rfl
  rw [hp]
  split
  · simp
  · exact endP_lim l 32 _ (Nat.le_trans (List.length_filter_le _ _) (toksL_tb l).1)
theorem qparse_read (l : List UInt8) (r : List NodeD × Int × Int) (hr : parseJ l = r) (w : World) (hs : l.length ≤ 140737488351232) :
    Calls Tryz.prog 10 #[.string (bs l)] w (ParseR l r w) := by
  subst hr
  refine (qparse_any l w hs).mono fun e w' h => ?_
  obtain ⟨v, he, ⟨z, nv, hv, hz, hn⟩, hb⟩ := h
  subst hv
  obtain ⟨p, c, hnv, hp⟩ := DocR.of hn
  rw [hz] at hnv hp
  subst hnv
  exact ⟨p, c, he, hp, hb⟩
/-- .. to be read and to be spoilt. -/
def ParseS (l : List UInt8) (r : List NodeD × Int × Int) (w : World) (e : Ending) (w' : World) : Prop :=
  ∃ p c z, e = .returned (.tuple #[.agg #[.string (bs (docT l r.1)), .slice p r.1.length c], .int .i64 r.2.1, .int .i64 r.2.2]) ∧ NodesR w' p r.1 ∧ z.map (·.1) = r.1 ∧ Spo w.heap.size z (.slice p r.1.length c) w' ∧ Below w.heap.size w w'
theorem parse_spo (l : List UInt8) (r : List NodeD × Int × Int) (hr : parseJ l = r) (w : World) (hs : l.length ≤ 4611686018427387904) (hV : SVar w) (hT : Tabs w) :
    Calls Tryz.prog 11 #[.string (bs l)] w (ParseS l r w) := by
  subst hr
  refine (jparse_any l w hs hV hT).mono fun e w' h => ?_
  obtain ⟨v, he, ⟨z, nv, hv, hz, hn⟩, hb⟩ := h
  subst hv
  obtain ⟨p, c, hnv, hp⟩ := DocR.of hn
  have hsp := Spo.of hn
  rw [hz] at hnv hp
  subst hnv
  exact ⟨p, c, z, he, hp, hz, hsp, hb⟩
set_option maxRecDepth 100000 in
set_option maxHeartbeats 8000000 in
theorem jsonParses_any (s : ByteArray) (w : World) (hs : s.size ≤ 140737488351232) (hV : SVar w) (hT : Tabs w) :
    Calls Tryz.prog 3 #[.string s] w fun e w' => e = .returned (.bool true) ∧ Below w.heap.size w w' := by
  have C0 := Lib.hid (fun w hV hT => jsmall_any w hV hT)
  obtain ⟨l, rfl⟩ : ∃ l, s = bs l := ⟨s.data.toList, (bs_of s).symm⟩
  have sl := bs_size l
  rw [sl] at hs
  have HV := Lib.hid hV
  have HT := Lib.hid hT
  clear hV hT
  by_cases hbig : 4096 < l.length
  · have dB : decide ((4096 : Int) < (l.length : Int)) = true := decide_eq_true (by omega)
    go_enter Tryz.func3, Tryz.ntmps3
    go_wp2_with fail
    with_reducible refine (C0.out _ HV.out HT.out).mono ?_
    rintro e w1 ⟨rfl, hb⟩
    have HB1 := Lib.hid hb; clear hb
    go_wp2_with fail
    go_ret
    exact ⟨rfl, HB1.out⟩
  have dB : decide ((4096 : Int) < (l.length : Int)) = false := decide_eq_false (by omega)
  obtain ⟨hL1, hL2⟩ := parse_lim l
  obtain ⟨R, hR⟩ : ∃ R, parseJ l = R := ⟨_, rfl⟩
  have CP := Lib.hid (fun w hV hT => parse_spo l R hR w (by omega) hV hT)
  have CQ := Lib.hid (fun w => qparse_read l R hR w (by omega))
  rw [hR] at hL1 hL2
  clear hR
  obtain ⟨nodes, n, er⟩ := R
  simp only [] at hL1 hL2
  obtain ⟨T, hTe⟩ : ∃ T, docT l nodes = T := ⟨_, rfl⟩
  have hTl : T.length ≤ 4096 := by rw [← hTe]; cases nodes <;> simp [docT]; omega
  have HL2 := Lib.hid hL2
  clear hL2
  go_enter Tryz.func3, Tryz.ntmps3
  go_wp2_with fail
  with_reducible refine (C0.out _ HV.out HT.out).mono ?_
  rintro e w1 ⟨rfl, hb⟩
  have HB1 := Lib.hid hb; clear hb
  go_wp2_with fail
  refine (CQ.out _).mono ?_
  rintro e w2 ⟨p2, c2, rfl, hn2, hb2⟩
  have HN2 := Lib.hid hn2
  have HB2 := Lib.hid (below_of_new HB1.out hb2)
  clear hn2 hb2
  simp only [hTe]
  have bX := below_alloc1 w2 (.cells #[.string (bs T), .slice p2 nodes.length c2] 25)
  have nX := heap_alloc_new w2 (.cells #[.string (bs T), .slice p2 nodes.length c2] 25)
  obtain ⟨X, hX⟩ : ∃ X, w2.heap.size = X := ⟨_, rfl⟩
  obtain ⟨WX, hWX⟩ : ∃ W, w2.alloc (.cells #[.string (bs T), .slice p2 nodes.length c2] 25) = W := ⟨_, rfl⟩
  rw [hWX] at bX nX
  rw [hX] at nX
  have HNX := Lib.hid (HN2.out.keep bX)
  have HBX := Lib.hid (below_of_new HB2.out bX)
  have HX := Lib.hid nX
  clear nX bX
  go_upto_region 5 with fail
  try rw [hWX]
  try rw [hX]
  clear hWX hX
  go_wp2_with fail
  go_loopw [7] (fun s7 wr => ∃ i : Nat, i ≤ 2 ∧ s7 = .int .i64 i ∧ Hid (Below WX.heap.size WX wr)) (fun s7 _ => 2 - (RowKit.intOf s7).toNat)
  case atStart => exact ⟨0, by omega, rfl, Below.refl _ _⟩
  case round =>
    obtain ⟨i, hi, rfl, HBr⟩ := hrel
    have hBw := HBX.out.size
    have HBw : Hid (Below w.heap.size w wr) := Lib.hid (below_of_new HBX.out HBr.out)
    by_cases hlt : i < 2
    · have hiz : (i : Int) < 2 := by omega
      have C1 := Lib.hid (CP.out wr (HV.out.keep HBw.out) (HT.out.keep HBw.out))
      go_wp2_with fail
      refine C1.out.mono ?_
      rintro e w3 ⟨p3, c3, z3, rfl, hn3, hz3, hs3, hb3⟩
      simp only [hTe]
      have bD := below_alloc1 w3 (.cells #[.string (bs T), .slice p3 nodes.length c3] 25)
      have nD := heap_alloc_new w3 (.cells #[.string (bs T), .slice p3 nodes.length c3] 25)
      obtain ⟨D, hD⟩ : ∃ X, w3.heap.size = X := ⟨_, rfl⟩
      obtain ⟨W4, hW4⟩ : ∃ W, w3.alloc (.cells #[.string (bs T), .slice p3 nodes.length c3] 25) = W := ⟨_, rfl⟩
      rw [hW4] at bD nD
      rw [hD] at nD
      have b4 : Below wr.heap.size wr W4 := below_of_new hb3 bD
      have bx4 := HBr.out.trans (b4.mono HBr.out.size)
      obtain ⟨x0, x1⟩ := cells_at2 ((bx4.block _ (cell_it HX.out)).trans HX.out)
      obtain ⟨y0, y1⟩ := cells_at2 nD
      have CSm := Lib.hid (same_any T nodes p3 p2 c3 c2 W4 (by omega) (by omega) (hn3.keep bD) (HNX.out.keep bx4) HL2.out)
      have HS4 := Lib.hid (hs3.below bD)
      have HB4 := Lib.hid b4
      have HDd := Lib.hid nD
      have HZ3 := Lib.hid hz3
      have CSp : Hid (∀ w5, Below W4.heap.size W4 w5 → Calls Tryz.prog 13 #[.agg #[.string (bs T), .slice p3 nodes.length c3]] w5 fun e w' => e = .returned (.tuple #[]) ∧ Below wr.heap.size w5 w') := Lib.hid (fun w5 h5 => by
        have hz : z3.map (·.1) = nodes := HZ3.out
        have hzl : z3.length = nodes.length := by rw [← hz, List.length_map]
        exact spoil_any wr.heap.size z3 _ (bs T) w5 (HS4.out.below h5) (Nat.le_trans HB4.out.size h5.size) (by omega) (fun y hy => HL2.out y.1 (by rw [← hz]; exact List.mem_map_of_mem hy)))
      clear hn3 hz3 hs3 hb3 bD nD b4 bx4
      go_wp2_with (go_at_call 12; (with_reducible refine CSm.out.mono ?_); rintro e w5 ⟨rfl, hb5⟩; have dd0 := cell_keep y0 hb5; have dd1 := cell_keep y1 hb5; have HB5 := Lib.hid hb5; clear hb5)
      refine (CSp.out _ HB5.out).mono ?_
      rintro e w6 ⟨rfl, hb6⟩
      have HB6 := Lib.hid (HBr.out.trans (((HB4.out.trans (HB5.out.mono HB4.out.size)).trans hb6).mono HBr.out.size))
      clear hb6
      go_wp2_with fail
      go_roundw
      case rel => exact ⟨i + 1, by omega, by go_num, HB6⟩
      case measure => simp [RowKit.intOf]; omega
    · go_wp2_with fail
      go_ret
      exact ⟨rfl, HBw.out⟩
end Go.Proofs.YtmghlaajocgoaaaGreatDoor
