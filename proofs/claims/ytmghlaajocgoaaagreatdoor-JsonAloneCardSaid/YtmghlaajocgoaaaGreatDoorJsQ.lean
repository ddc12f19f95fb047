import Derived.Test.YtmghlaajocgoaaaGreatDoorJsN
/-! The walks of Path and Slice, and of the document's. -/
namespace Go.Proofs.YtmghlaajocgoaaaGreatDoor
set_option linter.unusedSimpArgs false
set_option linter.unusedVariables false
open Go.RowKit Go.Maps Go.WideMaps
open Go.Lib hiding intOf
/-- Does a node hold a byte? -/
def hitB (nodes : List NodeD) (at_ : Int) (i : Nat) : Bool := match nodes[i]? with
  | some x => decide ((x.sf : Int) ≤ at_) && decide (at_ < (x.st : Int))
  | none => false
def pathT (nodes : List NodeD) (at_ : Int) (k : Nat) : List Nat := (List.range k).filter (hitB nodes at_)
theorem pathT_step (nodes : List NodeD) (at_ : Int) (k : Nat) (x : NodeD) (h : nodes[k]? = some x) : pathT nodes at_ (k + 1) = pathT nodes at_ k ++ (if (decide ((x.sf : Int) ≤ at_) && decide (at_ < (x.st : Int))) = true then [k] else []) := by
  unfold pathT
  rw [List.range_succ, List.filter_append]
  congr 1
  have : hitB nodes at_ k = (decide ((x.sf : Int) ≤ at_) && decide (at_ < (x.st : Int))) := by unfold hitB; rw [h]
  rw [List.filter_cons, this, List.filter_nil]
theorem pathT_len (nodes : List NodeD) (at_ : Int) (k : Nat) : (pathT nodes at_ k).length ≤ k := by
  have := List.length_filter_le (hitB nodes at_) (List.range k)
  rw [List.length_range] at this
  exact this
def PathE (L : List Nat) (w : World) (e : Ending) (w' : World) : Prop := ∃ p c, e = .returned (.tuple #[.slice p L.length c, .bool (decide (0 < L.length))]) ∧ IntsR w' (.slice p L.length c) L ∧ Below w.heap.size w w'
theorem row_push {w2 w1 w : World} {D : Nat} {v : Value} {L : List Nat} {o : Obj} (hr : w.ownsRow (D + 1) 3 1 v L.length (intCells L)) (hb : Below D w2 w) (ho : w.heap[D]? = some o) (hg : w.grownBy w1 v.ownBlock) : Below D w2 w1 ∧ w1.heap[D]? = some o := by
  refine ⟨hb.grown hg (Nat.le_of_lt (cell_it ho)) (fun k hk => by have := (hr.lt k hk).1; omega), (hg.block D (cell_it ho) (fun e => by have := (hr.lt D e.symm).1; omega)).trans ho⟩
set_option maxRecDepth 100000 in
set_option maxHeartbeats 8000000 in
theorem jpath_any (txt : ByteArray) (p : Option Addr) (c : Nat) (nodes : List NodeD) (at_ : Int) (w : World) (hn : NodesR w p nodes) (hN : nodes.length ≤ 65536) :
    Calls Tryz.prog 15 #[.agg #[.string txt, .slice p nodes.length c], .int .i64 at_] w (PathE (pathT nodes at_ nodes.length) w) := by
  obtain ⟨D, hD⟩ : ∃ D, w.heap.size = D := ⟨_, rfl⟩
  have HN := Lib.hid hn
  obtain ⟨L, hL⟩ : ∃ L, pathT nodes at_ nodes.length = L := ⟨_, rfl⟩
  rw [hL]
  have HLL := Lib.hid hL
  clear hL
  have hoD : (w.alloc (.cells #[.string txt, .slice p nodes.length c] 25)).heap[D]? = some (.cells #[.string txt, .slice p nodes.length c] 25) := by rw [← hD]; exact heap_alloc_new w _
  have HB0 : Hid (Below D w (w.alloc (.cells #[.string txt, .slice p nodes.length c] 25))) := Lib.hid (by rw [← hD]; exact below_alloc1 w _)
  have HO0 := Lib.hid hoD
  have HR0 : Hid ((w.alloc (.cells #[.string txt, .slice p nodes.length c] 25)).ownsRow (D + 1) 3 1 (.slice none 0 0) (pathT nodes at_ 0).length (intCells (pathT nodes at_ 0))) := Lib.hid ⟨rfl, .inl ⟨rfl, rfl⟩⟩
  have y1 := (cells_at2 hoD).2
  clear hn hoD
  go_enter Tryz.func15, Tryz.ntmps15
  go_wp2_with fail
  go_loopw [6, 12] (fun s6 s12 wr => ∃ (k : Nat) (v : Value), v = s6 ∧ s12 = .int .i64 (k : Int) ∧ k ≤ nodes.length ∧ Hid (Below D w wr) ∧ Hid (wr.heap[D]? = some (.cells #[.string txt, .slice p nodes.length c] 25)) ∧ Hid (wr.ownsRow (D + 1) 3 1 v (pathT nodes at_ k).length (intCells (pathT nodes at_ k)))) (fun _ s12 _ => nodes.length - (RowKit.intOf s12).toNat)
  case atStart => exact ⟨0, _, rfl, rfl, by omega, HB0, HO0, HR0⟩
  case round =>
    obtain ⟨k, v, rfl, rfl, hk, HB, HO, HR⟩ := hrel
    obtain ⟨y0, y1⟩ := cells_at2 HO.out
    by_cases hkl : k < nodes.length
    · obtain ⟨x, hx⟩ : ∃ x, nodes[k]? = some x := ⟨_, List.getElem?_eq_getElem hkl⟩
      have hbw : Below w.heap.size w wr := by rw [hD]; exact HB.out
      obtain ⟨g, rfl, hnr⟩ := HN.out k x hx
      obtain ⟨kv, pv, a0, a1, a2, a3, a4, a5, a6, ⟨pk, ck, rfl, _⟩, ⟨pp, cp, rfl, _⟩⟩ := hnr.keep hbw
      have hk0 : (0 : Int) ≤ (k : Int) := by omega
      have hk1 : (k : Int) < (nodes.length : Int) := by omega
      have dk : decide ((k : Int) < (nodes.length : Int)) = true := decide_eq_true hk1
      obtain ⟨k1, hk1e⟩ : ∃ k1, k + 1 = k1 := ⟨_, rfl⟩
      have hk1z : (k : Int) + 1 = (k1 : Int) := by omega
      have hstep := pathT_step nodes at_ k x hx
      have hlen := pathT_len nodes at_ k
      rw [hk1e] at hstep
      have hkk : k1 ≤ nodes.length := by omega
      have hwd : w.heap.size ≤ wr.heap.size := hbw.size
      obtain ⟨tmp, htmp⟩ : ∃ o : Obj, .cells #[.int .i64 (x.kind : Int), .int .i64 (x.sf : Int), .int .i64 (x.st : Int), .int .i64 (x.key.1 : Int), .int .i64 (x.key.2 : Int), .slice pk x.kids.length ck, .slice pp x.pcs.length cp] 37 = o := ⟨_, rfl⟩
      have bt := below_alloc1 wr tmp
      have HBt : Hid (Below D w (wr.alloc tmp)) := Lib.hid (HB.out.trans (bt.mono (by omega)))
      have HOt : Hid ((wr.alloc tmp).heap[D]? = some (.cells #[.string txt, .slice (some ⟨g, 0, none⟩) nodes.length c] 25)) := Lib.hid ((bt.block _ (cell_it HO.out)).trans HO.out)
      have HRt : Hid ((wr.alloc tmp).ownsRow (D + 1) 3 1 v (pathT nodes at_ k).length (intCells (pathT nodes at_ k))) := Lib.hid (World.ownsRow.alloc HR.out _)
      rw [← htmp] at HBt HOt HRt
      clear bt htmp hbw hnr hx
      by_cases b1 : (x.sf : Int) ≤ at_
      · have e1 : decide ((x.sf : Int) ≤ at_) = true := decide_eq_true b1
        by_cases b2 : at_ < (x.st : Int)
        · have e2 : decide (at_ < (x.st : Int)) = true := decide_eq_true b2
          simp only [e1, e2, Bool.and_self, if_true] at hstep
          have hown := HRt.out
          have hWs := HOt.out
          have hDW := cell_it hWs
          go_upto_region 6 with fail
          obtain ⟨W, hW⟩ : ∃ W, wr.alloc (.cells #[.int .i64 (x.kind : Int), .int .i64 (x.sf : Int), .int .i64 (x.st : Int), .int .i64 (x.key.1 : Int), .int .i64 (x.key.2 : Int), .slice pk x.kids.length ck, .slice pp x.pcs.length cp] 37) = W := ⟨_, rfl⟩
          rw [hW] at hown hWs hDW HBt
          try rw [hW]
          go_wp2_with (at_builtin; go_must (refine wpList_kid (by rfl) (.tmp 29) (.tmp 31) rfl (D + 1) W v (pathT nodes at_ k) k rfl hown rfl (by omega) hDW ?_); intro kv w5 hr5 hg5 _)
          obtain ⟨hb5, ho5⟩ := row_push hown HBt.out hWs hg5
          have hr6 : w5.ownsRow (D + 1) 3 1 kv (pathT nodes at_ k1).length (intCells (pathT nodes at_ k1)) := by
            rw [hstep, List.length_append, List.length_singleton]
            have e : intCells (pathT nodes at_ k ++ [k]) = intCells (pathT nodes at_ k) ++ [.int .i64 (k : Int)] := by unfold intCells; simp
            rw [e]; exact hr5
          have HB5 := Lib.hid hb5
          have HO5 := Lib.hid ho5
          have HR6 := Lib.hid hr6
          clear hb5 ho5 hr6 hr5 hg5 hown hWs hW hstep a0 a1 a2 a3 a4 a5 a6
          go_wp2_with fail
          go_roundw
          · exact ⟨k1, kv, rfl, by rw [← hk1z], hkk, HB5, HO5, HR6⟩
          · simp only [RowKit.intOf]; omega
        · have e2 : decide (at_ < (x.st : Int)) = false := decide_eq_false b2
          simp only [e1, e2, Bool.and_false, Bool.false_eq_true, if_false, List.append_nil] at hstep
          rw [← hstep] at HRt
          clear hstep
          go_wp2_with fail
          go_roundw
          · exact ⟨k1, v, rfl, by rw [← hk1z], hkk, HBt, HOt, HRt⟩
          · simp only [RowKit.intOf]; omega
      · have e1 : decide ((x.sf : Int) ≤ at_) = false := decide_eq_false b1
        simp only [e1, Bool.false_and, Bool.false_eq_true, if_false, List.append_nil] at hstep
        rw [← hstep] at HRt
        clear hstep
        go_wp2_with fail
        go_roundw
        · exact ⟨k1, v, rfl, by rw [← hk1z], hkk, HBt, HOt, HRt⟩
        · simp only [RowKit.intOf]; omega
    · obtain rfl : k = nodes.length := by omega
      have dk : decide ((nodes.length : Int) < (nodes.length : Int)) = false := decide_eq_false (by omega)
      rw [HLL.out] at HR
      have hir := ints_read HR.out
      obtain ⟨pv, cv, hv, hat⟩ := hir
      subst hv
      have HI := Lib.hid (show IntsR wr (.slice pv L.length cv) L from ⟨pv, cv, rfl, hat⟩)
      clear hat
      go_wp2_with fail
      go_ret2
      rw [← hD] at HB
      exact ⟨pv, cv, rfl, HI.out, HB.out⟩
set_option maxRecDepth 100000 in
set_option maxHeartbeats 8000000 in
theorem rpath_any (txt : ByteArray) (p : Option Addr) (c : Nat) (nodes : List NodeD) (at_ : Int) (w : World) (hn : NodesR w p nodes) (hN : nodes.length ≤ 65536) :
    Calls Tryz.prog 16 #[.agg #[.string txt, .slice p nodes.length c], .int .i64 at_] w (PathE (pathT nodes at_ nodes.length) w) := by
  obtain ⟨D, hD⟩ : ∃ D, w.heap.size = D := ⟨_, rfl⟩
  have HN := Lib.hid hn
  obtain ⟨L, hL⟩ : ∃ L, pathT nodes at_ nodes.length = L := ⟨_, rfl⟩
  rw [hL]
  have HLL := Lib.hid hL
  clear hL
  have hoD : (w.alloc (.cells #[.string txt, .slice p nodes.length c] 25)).heap[D]? = some (.cells #[.string txt, .slice p nodes.length c] 25) := by rw [← hD]; exact heap_alloc_new w _
  have HB0 : Hid (Below D w (w.alloc (.cells #[.string txt, .slice p nodes.length c] 25))) := Lib.hid (by rw [← hD]; exact below_alloc1 w _)
  have HO0 := Lib.hid hoD
  have HR0 : Hid ((w.alloc (.cells #[.string txt, .slice p nodes.length c] 25)).ownsRow (D + 1) 3 1 (.slice none 0 0) (pathT nodes at_ 0).length (intCells (pathT nodes at_ 0))) := Lib.hid ⟨rfl, .inl ⟨rfl, rfl⟩⟩
  have y1 := (cells_at2 hoD).2
  clear hn hoD
  go_enter Tryz.func16, Tryz.ntmps16
  go_wp2_with fail
  go_loopw [6, 7] (fun s6 s7 wr => ∃ (k : Nat) (v : Value), v = s6 ∧ s7 = .int .i64 (k : Int) ∧ k ≤ nodes.length ∧ Hid (Below D w wr) ∧ Hid (wr.heap[D]? = some (.cells #[.string txt, .slice p nodes.length c] 25)) ∧ Hid (wr.ownsRow (D + 1) 3 1 v (pathT nodes at_ k).length (intCells (pathT nodes at_ k)))) (fun _ s7 _ => nodes.length - (RowKit.intOf s7).toNat)
  case atStart => exact ⟨0, _, rfl, rfl, by omega, HB0, HO0, HR0⟩
  case round =>
    obtain ⟨k, v, rfl, rfl, hk, HB, HO, HR⟩ := hrel
    obtain ⟨y0, y1⟩ := cells_at2 HO.out
    by_cases hkl : k < nodes.length
    · obtain ⟨x, hx⟩ : ∃ x, nodes[k]? = some x := ⟨_, List.getElem?_eq_getElem hkl⟩
      have hbw : Below w.heap.size w wr := by rw [hD]; exact HB.out
      obtain ⟨g, rfl, hnr⟩ := HN.out k x hx
      obtain ⟨kv, pv, a0, a1, a2, a3, a4, a5, a6, ⟨pk, ck, rfl, _⟩, ⟨pp, cp, rfl, _⟩⟩ := hnr.keep hbw
      have hk0 : (0 : Int) ≤ (k : Int) := by omega
      have hk1 : (k : Int) < (nodes.length : Int) := by omega
      have dk : decide ((k : Int) < (nodes.length : Int)) = true := decide_eq_true hk1
      obtain ⟨k1, hk1e⟩ : ∃ k1, k + 1 = k1 := ⟨_, rfl⟩
      have hk1z : (k : Int) + 1 = (k1 : Int) := by omega
      have hstep := pathT_step nodes at_ k x hx
      have hlen := pathT_len nodes at_ k
      rw [hk1e] at hstep
      have hkk : k1 ≤ nodes.length := by omega
      have hwd : w.heap.size ≤ wr.heap.size := hbw.size
      have HBt := HB
      have HOt := HO
      have HRt := HR
      clear hbw hnr hx
      by_cases b1 : (x.sf : Int) ≤ at_
      · have e1 : decide ((x.sf : Int) ≤ at_) = true := decide_eq_true b1
        by_cases b2 : at_ < (x.st : Int)
        · have e2 : decide (at_ < (x.st : Int)) = true := decide_eq_true b2
          simp only [e1, e2, Bool.and_self, if_true] at hstep
          have hown := HRt.out
          have hWs := HOt.out
          have hDW := cell_it hWs
          go_upto_region 6 with fail
          obtain ⟨W, hW⟩ : ∃ W, wr = W := ⟨_, rfl⟩
          rw [hW] at hown hWs hDW HBt
          try rw [hW]
          go_wp2_with (at_builtin; go_must (refine wpList_kid (by rfl) (.tmp 35) (.tmp 37) rfl (D + 1) W v (pathT nodes at_ k) k rfl hown rfl (by omega) hDW ?_); intro kv w5 hr5 hg5 _)
          obtain ⟨hb5, ho5⟩ := row_push hown HBt.out hWs hg5
          have hr6 : w5.ownsRow (D + 1) 3 1 kv (pathT nodes at_ k1).length (intCells (pathT nodes at_ k1)) := by
            rw [hstep, List.length_append, List.length_singleton]
            have e : intCells (pathT nodes at_ k ++ [k]) = intCells (pathT nodes at_ k) ++ [.int .i64 (k : Int)] := by unfold intCells; simp
            rw [e]; exact hr5
          have HB5 := Lib.hid hb5
          have HO5 := Lib.hid ho5
          have HR6 := Lib.hid hr6
          clear hb5 ho5 hr6 hr5 hg5 hown hWs hW hstep a0 a1 a2 a3 a4 a5 a6
          go_wp2_with fail
          go_roundw
          · exact ⟨k1, kv, rfl, by rw [← hk1z], hkk, HB5, HO5, HR6⟩
          · simp only [RowKit.intOf]; omega
        · have e2 : decide (at_ < (x.st : Int)) = false := decide_eq_false b2
          simp only [e1, e2, Bool.and_false, Bool.false_eq_true, if_false, List.append_nil] at hstep
          rw [← hstep] at HRt
          clear hstep
          go_wp2_with fail
          go_roundw
          · exact ⟨k1, v, rfl, by rw [← hk1z], hkk, HBt, HOt, HRt⟩
          · simp only [RowKit.intOf]; omega
      · have e1 : decide ((x.sf : Int) ≤ at_) = false := decide_eq_false b1
        simp only [e1, Bool.false_and, Bool.false_eq_true, if_false, List.append_nil] at hstep
        rw [← hstep] at HRt
        clear hstep
        go_wp2_with fail
        go_roundw
        · exact ⟨k1, v, rfl, by rw [← hk1z], hkk, HBt, HOt, HRt⟩
        · simp only [RowKit.intOf]; omega
    · obtain rfl : k = nodes.length := by omega
      have dk : decide ((nodes.length : Int) < (nodes.length : Int)) = false := decide_eq_false (by omega)
      rw [HLL.out] at HR
      have hir := ints_read HR.out
      obtain ⟨pv, cv, hv, hat⟩ := hir
      subst hv
      have HI := Lib.hid (show IntsR wr (.slice pv L.length cv) L from ⟨pv, cv, rfl, hat⟩)
      clear hat
      go_wp2_with fail
      go_ret2
      rw [← hD] at HB
      exact ⟨pv, cv, rfl, HI.out, HB.out⟩
end Go.Proofs.YtmghlaajocgoaaaGreatDoor
/-! The walks of Slice, and of the document's. -/
namespace Go.Proofs.YtmghlaajocgoaaaGreatDoor
set_option linter.unusedSimpArgs false
set_option linter.unusedVariables false
open Go.RowKit Go.Maps Go.WideMaps
open Go.Lib hiding intOf
def sliceB (txt : ByteArray) (a b : Int) : ByteArray := if a < 0 ∨ b < a ∨ (txt.size : Int) < b then ⟨#[]⟩ else txt.extract a.toNat b.toNat
set_option maxRecDepth 100000 in
set_option maxHeartbeats 4000000 in
theorem jslice_any (txt : ByteArray) (nv : Value) (hnv : nv.oneCell' = true) (a b : Int) (w : World) :
    Calls Tryz.prog 14 #[.agg #[.string txt, nv], .agg #[.int .i64 a, .int .i64 b]] w fun e w' => e = .returned (.string (sliceB txt a b)) ∧ Below w.heap.size w w' := by
  obtain ⟨R, hR⟩ : ∃ R, sliceB txt a b = R := ⟨_, rfl⟩
  rw [hR]
  unfold sliceB at hR
  have hb := (below_alloc1 w (.cells #[.string txt, nv] 25)).trans ((below_alloc1 (w.alloc (.cells #[.string txt, nv] 25)) (.cells #[.int .i64 a, .int .i64 b] 33)).mono (by simp))
  have HB := Lib.hid hb
  clear hb
  by_cases h1 : a < 0
  · rw [if_pos (.inl h1)] at hR
    have d1 : decide (a < 0) = true := decide_eq_true h1
    subst hR
    go_enter Tryz.func14, Tryz.ntmps14
    go_wp2_with fail
    go_ret
    exact ⟨rfl, HB.out⟩
  have d1 : decide (a < 0) = false := decide_eq_false h1
  by_cases h2 : b < a
  · rw [if_pos (.inr (.inl h2))] at hR
    have d2 : decide (b < a) = true := decide_eq_true h2
    subst hR
    go_enter Tryz.func14, Tryz.ntmps14
    go_wp2_with fail
    go_ret
    exact ⟨rfl, HB.out⟩
  have d2 : decide (b < a) = false := decide_eq_false h2
  by_cases h3 : (txt.size : Int) < b
  · rw [if_pos (.inr (.inr h3))] at hR
    have d3 : decide ((txt.size : Int) < b) = true := decide_eq_true h3
    subst hR
    go_enter Tryz.func14, Tryz.ntmps14
    go_wp2_with fail
    go_ret
    exact ⟨rfl, HB.out⟩
  have d3 : decide ((txt.size : Int) < b) = false := decide_eq_false h3
  rw [if_neg (by omega)] at hR
  obtain ⟨a', rfl⟩ : ∃ a' : Nat, a = a' := ⟨a.toNat, by omega⟩
  obtain ⟨b', rfl⟩ : ∃ b' : Nat, b = b' := ⟨b.toNat, by omega⟩
  have i1 : (0 : Int) ≤ (a' : Int) := by omega
  have i2 : (a' : Int) ≤ (b' : Int) := by omega
  have i3 : (b' : Int) ≤ (txt.size : Int) := by omega
  subst hR
  simp only [Int.toNat_natCast]
  go_enter Tryz.func14, Tryz.ntmps14
  go_wp2_with fail
  go_ret
  exact ⟨rfl, HB.out⟩
set_option maxRecDepth 100000 in
set_option maxHeartbeats 4000000 in
theorem rslice_any (txt : ByteArray) (nv : Value) (hnv : nv.oneCell' = true) (a b : Int) (w : World) :
    Calls Tryz.prog 17 #[.agg #[.string txt, nv], .agg #[.int .i64 a, .int .i64 b]] w fun e w' => e = .returned (.string (sliceB txt a b)) ∧ Below w.heap.size w w' := by
  obtain ⟨R, hR⟩ : ∃ R, sliceB txt a b = R := ⟨_, rfl⟩
  rw [hR]
  unfold sliceB at hR
  have hb := (below_alloc1 w (.cells #[.string txt, nv] 25)).trans ((below_alloc1 (w.alloc (.cells #[.string txt, nv] 25)) (.cells #[.int .i64 a, .int .i64 b] 33)).mono (by simp))
  have HB := Lib.hid hb
  clear hb
  by_cases h1 : a < 0
  · rw [if_pos (.inl h1)] at hR
    have d1 : decide (a < 0) = true := decide_eq_true h1
    subst hR
    go_enter Tryz.func17, Tryz.ntmps17
    go_wp2_with fail
    go_ret
    exact ⟨rfl, HB.out⟩
  have d1 : decide (a < 0) = false := decide_eq_false h1
  by_cases h2 : b < a
  · rw [if_pos (.inr (.inl h2))] at hR
    have d2 : decide (b < a) = true := decide_eq_true h2
    subst hR
    go_enter Tryz.func17, Tryz.ntmps17
    go_wp2_with fail
    go_ret
    exact ⟨rfl, HB.out⟩
  have d2 : decide (b < a) = false := decide_eq_false h2
  by_cases h3 : (txt.size : Int) < b
  · rw [if_pos (.inr (.inr h3))] at hR
    have d3 : decide ((txt.size : Int) < b) = true := decide_eq_true h3
    subst hR
    go_enter Tryz.func17, Tryz.ntmps17
    go_wp2_with fail
    go_ret
    exact ⟨rfl, HB.out⟩
  have d3 : decide ((txt.size : Int) < b) = false := decide_eq_false h3
  rw [if_neg (by omega)] at hR
  obtain ⟨a', rfl⟩ : ∃ a' : Nat, a = a' := ⟨a.toNat, by omega⟩
  obtain ⟨b', rfl⟩ : ∃ b' : Nat, b = b' := ⟨b.toNat, by omega⟩
  have i1 : (0 : Int) ≤ (a' : Int) := by omega
  have i2 : (a' : Int) ≤ (b' : Int) := by omega
  have i3 : (b' : Int) ≤ (txt.size : Int) := by omega
  subst hR
  simp only [Int.toNat_natCast]
  go_enter Tryz.func17, Tryz.ntmps17
  go_wp2_with fail
  go_ret
  exact ⟨rfl, HB.out⟩
end Go.Proofs.YtmghlaajocgoaaaGreatDoor
