import Derived.Test.YtnnlpkbopeiefaaGreatDoorJsL
import Derived.Test.YtnnlpkbopeiefaaGreatDoorJsT
import Derived.Laws.Bits128
import Derived.Deep.RegionHeld3
/-! Words that the laws of json share. -/
namespace Go.Proofs.YtnnlpkbopeiefaaGreatDoor
set_option linter.unusedSimpArgs false
set_option linter.unusedVariables false
open Go.RowKit Go.Maps Go.WideMaps
open Go.Lib hiding intOf
theorem finP_len (l : List UInt8) (lv : Nat) (ts : List Tok) (hts : ts.length ≤ 65536) : (finP l.length (valueM l lv ts (0, 0) [] (0, 0))).1.length ≤ 65536 := by
  cases hR : valueM l lv ts (0, 0) [] (0, 0) with
  | bad a er => simp [finP]
  | ok rr l2 ns =>
    obtain ⟨more, hne, hm1, hm2, _⟩ := value_ext l lv _ _ _ _ _ _ _ hR
    cases rr with
    | nil => rw [List.nil_append] at hne; subst hne; show ns.length ≤ _; simp only [List.length_nil] at hm2; omega
    | cons t rr => simp [finP]
theorem parse_few (l : List UInt8) : (parseJ l).1.length ≤ 65536 := by
  rw [parse_eq]
  split
  · simp
  · exact finP_len l 32 _ (Nat.le_trans (List.length_filter_le _ _) (toksL_tb l).1)
/-- A document in its cell. -/
def DocC (w : World) (D : Nat) (txt : ByteArray) (p : Option Addr) (n c : Nat) : Prop := w.heap[D]? = some (.cells #[.string txt, .slice p n c] 120)
theorem DocC.new (w : World) (txt : ByteArray) (p : Option Addr) (n c : Nat) : DocC (w.alloc (.cells #[.string txt, .slice p n c] 120)) w.heap.size txt p n c := heap_alloc_new w _
end Go.Proofs.YtnnlpkbopeiefaaGreatDoor
/-! The walks of Slice, and of the document's. -/
namespace Go.Proofs.YtnnlpkbopeiefaaGreatDoor
set_option linter.unusedSimpArgs false
set_option linter.unusedVariables false
open Go.RowKit Go.Maps Go.WideMaps
open Go.Lib hiding intOf
def sliceB (txt : ByteArray) (a b : Int) : ByteArray := if a < 0 ∨ b < a ∨ (txt.size : Int) < b then ⟨#[]⟩ else txt.extract a.toNat b.toNat
set_option maxRecDepth 100000 in
set_option maxHeartbeats 4000000 in
theorem jslice_any (txt : ByteArray) (nv : Value) (hnv : nv.oneCell' = true) (a b : Int) (w : World) :
    Calls Tryz.prog 181 #[.agg #[.string txt, nv], .agg #[.int .i64 a, .int .i64 b]] w fun e w' => e = .returned (.string (sliceB txt a b)) ∧ Below w.heap.size w w' := by
  obtain ⟨R, hR⟩ : ∃ R, sliceB txt a b = R := ⟨_, rfl⟩
  rw [hR]
  unfold sliceB at hR
  have hb := (below_alloc1 w (.cells #[.string txt, nv] 120)).trans ((below_alloc1 (w.alloc (.cells #[.string txt, nv] 120)) (.cells #[.int .i64 a, .int .i64 b] 51)).mono (by simp))
  have HB := Lib.hid hb
  clear hb
  by_cases h1 : a < 0
  · rw [if_pos (.inl h1)] at hR
    have d1 : decide (a < 0) = true := decide_eq_true h1
    subst hR
    go_enter Tryz.func181, Tryz.ntmps181
    go_wp2_with fail
    go_ret
    exact ⟨rfl, HB.out⟩
  have d1 : decide (a < 0) = false := decide_eq_false h1
  by_cases h2 : b < a
  · rw [if_pos (.inr (.inl h2))] at hR
    have d2 : decide (b < a) = true := decide_eq_true h2
    subst hR
    go_enter Tryz.func181, Tryz.ntmps181
    go_wp2_with fail
    go_ret
    exact ⟨rfl, HB.out⟩
  have d2 : decide (b < a) = false := decide_eq_false h2
  by_cases h3 : (txt.size : Int) < b
  · rw [if_pos (.inr (.inr h3))] at hR
    have d3 : decide ((txt.size : Int) < b) = true := decide_eq_true h3
    subst hR
    go_enter Tryz.func181, Tryz.ntmps181
    go_wp2_with fail
    go_ret
    exact ⟨rfl, HB.out⟩
  have d3 : decide ((txt.size : Int) < b) = false := decide_eq_false h3
  rw [if_neg (by omega)] at hR
  obtain ⟨a', rfl⟩ : ∃ a' : Nat, a = a' := ⟨a.toNat, by omega⟩
  obtain ⟨b', rfl⟩ : ∃ b' : Nat, b = b' := ⟨b.toNat, by omega⟩
  have i1 : (0 : Int) ≤ (a' : Int) := by omega
  have i2 : (a' : Int) ≤ (b' : Int) := by omega
  have i3 : (b' : Int) ≤ (txt.size : Int) := by omega
  subst hR
  simp only [Int.toNat_natCast]
  go_enter Tryz.func181, Tryz.ntmps181
  go_wp2_with fail
  go_ret
  exact ⟨rfl, HB.out⟩
end Go.Proofs.YtnnlpkbopeiefaaGreatDoor
