import Derived.Test.YtbdognlebkagpaaDoorRunesG
import Derived.BigQuiet
import Derived.Deep.QuietTactic
namespace Go.Proofs.YtbdognlebkagpaaDoor
open Go.RowKit
open Go.Lib hiding intOf

/-! Place. -/
/-- A row of spans of the call's own that is not empty. -/
theorem OwnsSpans.form {B : Nat} {w : World} {v : Value} {xs : List (Nat × Nat)} (h : OwnsSpans B w v xs) (hne : 1 ≤ xs.length) :
    ∃ g cap, v = .slice (some ⟨g, 0, none⟩) xs.length cap ∧ B ≤ g ∧ g < w.heap.size ∧ ∀ j a b : Nat, xs[j]? = some (a, b) → w.cell? ⟨g, j * 2, none⟩ = some (.int .i64 a) ∧ w.cell? ⟨g, j * 2 + 1, none⟩ = some (.int .i64 b) := by
  have hlen := spanCells_len xs
  obtain ⟨h1, h2⟩ := h
  rcases h2 with ⟨_, h0⟩ | ⟨g, cap, cur, hv, hb, hh, hn, hm, hsz, ht⟩
  · omega
  · subst hv
    have hown : w.ownsRow B 31 2 (.slice (some ⟨g, 0, none⟩) xs.length cap) xs.length (spanCells xs) := ⟨h1, .inr ⟨g, cap, cur, rfl, hb, hh, hn, hm, hsz, ht⟩⟩
    refine ⟨g, cap, rfl, hb, (Array.getElem?_eq_some_iff.1 hh).1, fun j a b hj => ?_⟩
    have hjl : j < xs.length := (List.getElem?_eq_some_iff.1 hj).1
    obtain ⟨e1, e2⟩ := spanCells_at xs j a b hj
    rw [hown.cellAt (j * 2) (by omega), hown.cellAt (j * 2 + 1) (by omega), show j * 2 = 2 * j by omega]
    exact ⟨e1, e2⟩

set_option maxHeartbeats 400000 in
theorem begins_at (s : ByteArray) (q : Nat) (w : World) (hq : q ≤ s.size) (hs : s.size ≤ 4294967000) :
    Calls Tryd.prog 20 #[.string s, .int .i64 q] w fun e w' => e = .returned (.int .i64 (lineStart s q)) ∧ w = w' := by
  have hl := lastIdx_start s q hq
  have hb := (lineStart_char s q hq).1
  have hz : (s.extract 0 q).size < 4611686018427387904 := by rw [ByteArray.size_extract]; omega
  have hc := Tryd.strings_LastIndexByte (s.extract 0 q) 10 hz w
  rw [show Lib.lastIndexByte (s.extract 0 q) 10 = (lineStart s q : Int) - 1 by omega] at hc
  generalize lineStart s q = r at *
  clear hl hz
  have HC := Lib.hid hc; clear hc
  go_enter Tryd.func20, Tryd.ntmps20
  go_wp2_with (go_at_call 29; go_must (refine HC.out.mono ?_); rintro e w' ⟨rfl, rfl⟩)
  go_ret
  exact ⟨ret_int (by omega), rfl⟩

/-- The reference's scan over the lines, at its k-th. -/
theorem scanL_step (xs : List (Nat × Nat)) (q k a b : Nat) (h : xs[k]? = some (a, b)) : scanL (xs.drop k) q = if k + 1 < xs.length ∧ b ≤ q then ((scanL (xs.drop (k + 1)) q).1 + 1, (scanL (xs.drop (k + 1)) q).2) else (0, a) := by
  obtain ⟨hk, e⟩ := List.getElem?_eq_some_iff.1 h
  rw [List.drop_eq_getElem_cons hk, e, scanL]
  by_cases hc : k + 1 < xs.length
  · have : xs.drop (k + 1) ≠ [] := by rw [Ne, List.drop_eq_nil_iff]; omega
    simp [this, hc]
  · have : xs.drop (k + 1) = [] := by rw [List.drop_eq_nil_iff]; omega
    simp [this, hc]
def Scan (s : ByteArray) (q k : Nat) : Prop := scanL (linesOf s) q = (k + (scanL ((linesOf s).drop k) q).1, (scanL ((linesOf s).drop k) q).2)
theorem Scan.zero (s : ByteArray) (q : Nat) : Scan s q 0 := by unfold Scan; simp
theorem Scan.more {s : ByteArray} {q k a b : Nat} (h : Scan s q k) (hk : (linesOf s)[k]? = some (a, b)) (h1 : k + 1 < (linesOf s).length) (h2 : b ≤ q) : Scan s q (k + 1) := by
  unfold Scan at h ⊢
  rw [scanL_step _ q k a b hk, if_pos ⟨h1, h2⟩] at h
  rw [h]
  simp; omega
theorem Scan.fin {s : ByteArray} {q k a b : Nat} (h : Scan s q k) (hk : (linesOf s)[k]? = some (a, b)) (h1 : ¬ (k + 1 < (linesOf s).length ∧ b ≤ q)) : scanL (linesOf s) q = (k, a) := by
  unfold Scan at h
  rw [scanL_step _ q k a b hk, if_neg h1] at h
  exact h
def lineNo (s : ByteArray) (q : Nat) : Nat := nls (s.data.toList.take q)
theorem Scan.is {s : ByteArray} {q k a : Nat} (h : scanL (linesOf s) q = (k, a)) : k = lineNo s q ∧ a = lineStart s q := by
  unfold linesOf at h
  rw [scanL_lines _ 0 0 q (Nat.zero_le _)] at h
  injection h with h1 h2
  exact ⟨by rw [← h1]; simp [lineNo], h2.symm⟩
theorem ret_place {a b c d : Int} {x : Bool} (h : a = c) (k : b = d) : Ending.returned (.tuple #[.int .i64 a, .int .i64 b, .bool x]) = .returned (.tuple #[.int .i64 c, .int .i64 d, .bool x]) := by rw [h, k]

set_option maxHeartbeats 2000000 in
theorem refPlace_at (s : ByteArray) (q : Nat) (w : World) (hq : q ≤ s.size) (hs : s.size ≤ 4294967000) :
    Calls Tryd.prog 10 #[.string s, .int .i64 q] w fun e w' => e = .returned (.tuple #[.int .i64 ((lineNo s q : Int) + 1), .int .i64 (colOf s q), .bool true]) ∧ Below w.heap.size w w' := by
  have hll := linesOf_len s
  go_enter Tryd.func10, Tryd.ntmps10
  go_wp2_with (go_at_call 19; go_must (refine (refLines_any s _ hs).mono ?_); rintro e w1 ⟨v, rfl, hown, hb1⟩; have HO : Hid (OwnsSpans w.heap.size w1 v (linesOf s)) := hown; clear hown)
  obtain ⟨g, cap, rfl, hBg, hgs, hcell⟩ := HO.out.form hll.2
  have HC := Lib.hid hcell; clear hcell HO
  have HB := Lib.hid hb1; clear hb1
  go_wp2_with fail
  go_loop [8] (fun k => ∃ k0 : Nat, k0 < (linesOf s).length ∧ k = .int .i64 k0 ∧ Hid (Scan s q k0)) (fun k => (linesOf s).length - (RowKit.intOf k).toNat)
  case atStart => exact ⟨0, by omega, rfl, Scan.zero s q⟩
  case round =>
    obtain ⟨k, hk, rfl, HS⟩ := hrel
    obtain ⟨a, b, hab⟩ : ∃ a b, (linesOf s)[k]? = some (a, b) := ⟨_, _, List.getElem?_eq_getElem hk⟩
    obtain ⟨ca, cb⟩ := HC.out k a b hab
    have HAB := Lib.hid hab; clear hab
    by_cases hc : k + 1 < (linesOf s).length ∧ b ≤ q
    · have HN := Lib.hid (HS.out.more HAB.out hc.1 hc.2)
      obtain ⟨hc1, hc2⟩ := hc
      go_wp2
      go_round
      case rel => exact ⟨k + 1, by omega, by go_num, HN.out⟩
      case measure => simp [RowKit.intOf]; omega
    · obtain ⟨e1, e2⟩ := Scan.is (HS.out.fin HAB.out hc)
      have hst := (lineStart_char s q hq).1
      subst e2
      have E1 := Lib.hid e1; clear e1
      have hc2 : k + 1 < (linesOf s).length → q < b := fun h => by omega
      clear hc
      by_cases hc : k + 1 < (linesOf s).length
      all_goals
        first | (have hb := hc2 hc; clear hc2) | clear hc2
        go_wp2_with fail
        go_loop [9, 10] (fun c i => ∃ c0 p : Nat, p ≤ s.size ∧ c0 ≤ p + 1 ∧ c = .int .i64 c0 ∧ i = .int .i64 p ∧ Hid (p ≤ q ∧ Cols s q c0 p ∨ q < p ∧ colOf s q = c0)) (fun _ i => s.size - (RowKit.intOf i).toNat)
        case atStart => exact ⟨1, lineStart s q, by omega, by omega, rfl, rfl, .inl ⟨hst, Cols.zero s q⟩⟩
        case round =>
          obtain ⟨c0, p, hp, hcp, rfl, rfl, HL⟩ := hrel
          by_cases hpq : p < q
          · have hw := widN_bd s p (by omega)
            obtain ⟨_, hcols⟩ : p ≤ q ∧ Cols s q c0 p := by
              rcases HL.out with h | h
              · exact h
              · omega
            by_cases hq2 : p + widN s p ≤ q
            · have HN := Lib.hid (hcols.next (by omega) hq2); clear hcols
              go_wp2_with (go_at_call 17; go_must (refine (refNext_at s p _ (by omega) (by omega)).mono ?_); rintro e w' ⟨rfl, rfl⟩)
              go_round
              case rel => exact ⟨c0 + 1, p + widN s p, by omega, by omega, by go_num, by go_num, .inl ⟨hq2, HN.out⟩⟩
              case measure => simp [RowKit.intOf]; omega
            · have HN := Lib.hid (hcols.fin (.inr (by omega))); clear hcols
              go_wp2_with (go_at_call 17; go_must (refine (refNext_at s p _ (by omega) (by omega)).mono ?_); rintro e w' ⟨rfl, rfl⟩)
              go_round
              case rel => exact ⟨c0, p + widN s p, by omega, by omega, rfl, by go_num, .inr ⟨by omega, HN.out⟩⟩
              case measure => simp [RowKit.intOf]; omega
          · have HN : Hid (colOf s q = c0) := by
              rcases HL.out with ⟨h1, h2⟩ | ⟨_, h⟩
              · by_cases hsz : p < s.size
                · have hw := widN_bd s p hsz
                  exact h2.fin (.inr (by omega))
                · exact h2.fin (.inl (by omega))
              · exact h
            go_wp2_with fail
            go_ret3
            exact ⟨ret_place (by rw [E1.out]) (by rw [HN.out]), HB.out⟩
end Go.Proofs.YtbdognlebkagpaaDoor
