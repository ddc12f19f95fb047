import Derived.Test.YtbdognlebkagpaaDoorRunesN
namespace Go.Proofs.YtbdognlebkagpaaDoor
open Go.RowKit
open Go.Lib hiding intOf

/-! RunesTells. -/
set_option maxHeartbeats 1000000 in
theorem sameSpans_yes (xs : List (Nat × Nat)) (g1 g2 c1 c2 : Nat) (w : World) (h1 : SpansAt w g1 xs) (h2 : SpansAt w g2 xs) (hg1 : g1 < w.heap.size) (hg2 : g2 < w.heap.size) (hn : xs.length ≤ 4294967296) :
    Calls Tryd.prog 18 #[.slice (some ⟨g1, 0, none⟩) xs.length c1, .slice (some ⟨g2, 0, none⟩) xs.length c2] w fun e w' => e = .returned (.bool true) ∧ Below w.heap.size w w' := by
  go_enter Tryd.func18, Tryd.ntmps18
  go_wp2_with fail
  go_loopw [5] (fun i wr => ∃ j : Nat, j ≤ xs.length ∧ i = .int .i64 j ∧ Hid (Below w.heap.size w wr)) (fun i _ => xs.length - (RowKit.intOf i).toNat)
  case atStart => exact ⟨0, by omega, rfl, Below.refl _ _⟩
  case round =>
    obtain ⟨j, hj, rfl, HJ⟩ := hrel
    by_cases hlt : j < xs.length
    · obtain ⟨a, b, hab⟩ : ∃ a b, xs[j]? = some (a, b) := ⟨_, _, List.getElem?_eq_getElem hlt⟩
      obtain ⟨ca, cb⟩ := (h1.below HJ.out hg1).at_ hab
      obtain ⟨da, db⟩ := (h2.below HJ.out hg2).at_ hab
      have hlz : (j : Int) < (xs.length : Int) := by omega
      clear hab
      go_wp2_with fail
      go_quiet (fail)
      go_wp2_with fail
      go_roundw
      case rel => exact ⟨j + 1, by omega, by go_num, below_drewN HJ.out _⟩
      case measure => simp [RowKit.intOf]; omega
    · go_wp2_with fail
      go_ret
      exact ⟨rfl, HJ.out⟩

def nextRes (s : ByteArray) (q : Int) : Int × Int := if q < 0 ∨ (s.size : Int) ≤ q then (0, 0) else (runeI s q.toNat, (widN s q.toNat : Int))
def Two (R : Int × Int) : Ending := .returned (.tuple #[.int .i32 R.1, .int .i64 R.2])
theorem next_any (s : ByteArray) (q : Int) (w : World) (hT : Tabs w) : Calls Tryd.prog 16 #[.string s, .int .i64 q] w fun e w' => e = Two (nextRes s q) ∧ Below w.heap.size w w' := by
  unfold nextRes
  by_cases h : q < 0 ∨ (s.size : Int) ≤ q
  · rw [if_pos h]
    exact (next_out s q w h).mono fun e w' ⟨a, b⟩ => ⟨a, by rw [← b]; exact Below.refl _ _⟩
  · obtain ⟨k, rfl⟩ : ∃ k : Nat, q = k := ⟨q.toNat, by omega⟩
    rw [if_neg h]
    exact next_at s k w (by omega) hT
theorem refNext_all (s : ByteArray) (q : Int) (w : World) (hs : s.size ≤ 4294967000) : Calls Tryd.prog 17 #[.string s, .int .i64 q] w fun e w' => e = Two (nextRes s q) ∧ w = w' := by
  unfold nextRes
  by_cases h : q < 0 ∨ (s.size : Int) ≤ q
  · rw [if_pos h]
    exact refNext_out s q w h
  · obtain ⟨k, rfl⟩ : ∃ k : Nat, q = k := ⟨q.toNat, by omega⟩
    rw [if_neg h]
    exact refNext_at s k w (by omega) (by omega)

/-! A block known whole. -/
theorem blk_cell {w : World} {g : Nat} {t : TypeId} {cs : Array Value} (h : w.heap[g]? = some (.cells cs t (0, 0))) (i : Nat) : w.cell? ⟨g, i, none⟩ = cs[i]? := cell_of_row w g i cs t (0, 0) h
theorem blk_free {w : World} {g : Nat} {t : TypeId} {cs : Array Value} (h : w.heap[g]? = some (.cells cs t (0, 0))) (i : Nat) : w.frozen? ⟨g, i, none⟩ = false := by simp [World.frozen?, h]
theorem blk_set {w : World} {g : Nat} {t : TypeId} {cs : Array Value} (h : w.heap[g]? = some (.cells cs t (0, 0))) (i : Nat) (u : Value) : (w.setCell ⟨g, i, none⟩ u).heap[g]? = some (.cells (cs.setIfInBounds i u) t (0, 0)) := by
  simp [World.setCell, Array.getElem?_modify, h]
theorem lines_blk (s : ByteArray) (w : World) (hs : s.size ≤ 4294967000) :
    Calls Tryd.prog 13 #[.string s] w fun e w' => ∃ g cap cur, e = .returned (.slice (some ⟨g, 0, none⟩) (linesOf s).length cap) ∧ w.heap.size ≤ g ∧ g < w'.heap.size ∧ w'.heap[g]? = some (.cells cur 31 (0, 0)) ∧ (linesOf s).length * 2 ≤ cur.size ∧ SpansAt w' g (linesOf s) ∧ Below w.heap.size w w' :=
  (lines_any s w hs).mono fun e w' ⟨v, he, ho, hb⟩ => by
    obtain ⟨g, cap, rfl, h1, h2, h3⟩ := OwnsSpans.form ho (linesOf_len s).2
    obtain ⟨_, ho2⟩ := ho
    rcases ho2 with ⟨h0, _⟩ | ⟨g', cap', cur, hv, _, hh, hn, _, hsz, _⟩
    · cases h0
    · cases hv
      exact ⟨g, cap, cur, he, h1, h2, hh, by omega, h3, hb⟩

set_option maxHeartbeats 4000000 in
theorem runesTells_walk (s : ByteArray) (q : Int) (w : World) (hs : s.size ≤ 4294967000) (hT : Tabs w) :
    Calls Tryd.prog 5 #[.string s, .int .i64 q] w fun e w' => e = .returned (.bool true) ∧ Below w.heap.size w w' := by
  have hll := linesOf_len s
  have c1 := fun (w : World) hT => valid_any s w (by omega) hT
  have c2 := fun (w : World) => refValid_any s w (by omega)
  have c3 := fun (w : World) hT => next_any s q w hT
  have c4 := fun (w : World) => refNext_all s q w hs
  obtain ⟨a, b⟩ := validRes s
  obtain ⟨c, d⟩ := nextRes s q
  have C1 := Lib.hid c1; have C2 := Lib.hid c2; have C3 := Lib.hid c3; have C4 := Lib.hid c4
  clear c1 c2 c3 c4
  go_enter Tryd.func5, Tryd.ntmps5
  go_wp2_with fail
  refine (small_any _ hT).mono ?_
  rintro e w1 ⟨rfl, hb1⟩
  have HB1 := Lib.hid hb1
  have hT1 := hT.keep hb1
  clear hb1
  go_wp2_with fail
  refine (C1.out _ hT1).mono ?_
  rintro e w2 ⟨rfl, hb2⟩
  have HB2 := Lib.hid (below_of_new HB1.out hb2)
  have hT2 := hT1.keep hb2
  clear hb2 hT1
  go_wp2_with fail
  refine (C2.out _).mono ?_
  rintro e w2' ⟨rfl, rfl⟩
  go_wp2_with fail
  refine (C3.out _ hT2).mono ?_
  rintro e w3 ⟨rfl, hb3⟩
  unfold Two
  have HB3 := Lib.hid (below_of_new HB2.out hb3)
  clear hb3
  go_wp2_with fail
  refine (C4.out _).mono ?_
  rintro e w3' ⟨rfl, rfl⟩
  unfold Two
  go_wp2_with fail
  refine (lines_blk s _ hs).mono ?_
  rintro e w4 ⟨g1, p1, cur, rfl, hg1, hz1, hbk, hcz, hs1, hb4⟩
  have HK := Lib.hid hbk; clear hbk
  have HB4 := Lib.hid (below_of_new HB3.out hb4)
  have HS1 := Lib.hid hs1
  clear hb4 hs1
  go_wp2_with fail
  refine (refLines_open s _ hs).mono ?_
  rintro e w5 ⟨g2, p2, rfl, hg2, hz2, hs2, hb5⟩
  have HB5 := Lib.hid (below_of_new HB4.out hb5)
  have HS1' := Lib.hid (HS1.out.below hb5 hz1)
  have HS2 := Lib.hid hs2
  have hz1' : g1 < w5.heap.size := by have := hb5.size; omega
  have HK5 := Lib.hid ((hb5.block g1 hz1).trans HK.out)
  clear hb5 hs2
  go_wp2_with fail
  refine (sameSpans_yes _ g1 g2 _ _ _ HS1'.out HS2.out hz1' hz2 (by omega)).mono ?_
  rintro e w6 ⟨rfl, hb6⟩
  have HB6 := Lib.hid (below_of_new HB5.out hb6)
  have HK6 := Lib.hid ((hb6.block g1 hz1').trans HK5.out)
  have hg0 : w.heap.size ≤ g1 := by have := HB3.out.size; omega
  clear hb6
  go_wp2_with fail
  go_loopw [16] (fun j wr => ∃ (k : Nat) (cs : Array Value), k ≤ (linesOf s).length ∧ j = .int .i64 k ∧ Hid ((linesOf s).length * 2 ≤ cs.size) ∧ Hid (wr.heap[g1]? = some (.cells cs 31 (0, 0))) ∧ Hid (Below w.heap.size w wr)) (fun j _ => (linesOf s).length - (RowKit.intOf j).toNat)
  case atStart => exact ⟨0, cur, by omega, rfl, hcz, HK6.out, HB6.out⟩
  case round =>
    obtain ⟨k, cs, hk, rfl, HZ, HKr, HW⟩ := hrel
    by_cases hlt : k < (linesOf s).length
    · have hzz := HZ.out
      have hc0 : wr.cell? ⟨g1, k * 2, none⟩ = some (cs[k * 2]'(by omega)) := by rw [blk_cell HKr.out, Array.getElem?_eq_getElem (by omega)]
      have hf0 := blk_free HKr.out (k * 2)
      generalize cs[k * 2]'(by omega) = old at hc0
      clear hzz
      have HN := Lib.hid (blk_set HKr.out (k * 2) (.int .i64 (-7)))
      go_wp2_with fail
      go_roundw
      case rel => exact ⟨k + 1, cs.setIfInBounds (k * 2) (.int .i64 (-7)), by omega, by go_num, by have := HZ.out; unfold Hid; simpa using this, HN.out, HW.out.setCell (by exact hg0) _⟩
      case measure => simp [RowKit.intOf]; omega
    · go_wp2_with fail
      refine (lines_open s _ hs).mono ?_
      rintro e w7 ⟨g3, p3, rfl, hg3, hz3, hs3, hb7⟩
      have HB7 := Lib.hid (below_of_new HW.out hb7)
      have HS3 := Lib.hid hs3
      clear hb7 hs3
      go_wp2_with fail
      refine (refLines_open s _ hs).mono ?_
      rintro e w8 ⟨g4, p4, rfl, hg4, hz4, hs4, hb8⟩
      have HB8 := Lib.hid (below_of_new HB7.out hb8)
      have HS3' := Lib.hid (HS3.out.below hb8 hz3)
      have HS4 := Lib.hid hs4
      have hz3' : g3 < w8.heap.size := by have := hb8.size; omega
      clear hb8 hs4
      go_wp2_with fail
      refine (sameSpans_yes _ g3 g4 _ _ _ HS3'.out HS4.out hz3' hz4 (by omega)).mono ?_
      rintro e w9 ⟨rfl, hb9⟩
      have HB9 := Lib.hid (below_of_new HB8.out hb9)
      clear hb9
      go_wp2_with fail
      go_ret
      exact ⟨rfl, HB9.out⟩
end Go.Proofs.YtbdognlebkagpaaDoor
