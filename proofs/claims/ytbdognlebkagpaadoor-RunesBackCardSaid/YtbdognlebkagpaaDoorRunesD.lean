import Derived.Test.YtbdognlebkagpaaDoorRunesC
import Derived.Test.YtbdognlebkagpaaDoorShelf
namespace Go.Proofs.YtbdognlebkagpaaDoor
open Go.RowKit Go.Lib

/-! The rune at a place; the tables; Next, Good. -/
def runeI (s : ByteArray) (i : Nat) : Int := ((Utf8.decode s i).1 : Int)
def widN (s : ByteArray) (i : Nat) : Nat := (Utf8.decode s i).2
theorem runeI_bd (s : ByteArray) (i : Nat) : 0 ≤ runeI s i ∧ runeI s i ≤ 1114111 := by
  unfold runeI; have := rune_le s i; omega
theorem decodeN_4 (n b0 b1 b2 b3 : Nat) (hn : 1 ≤ n) : (decodeN n b0 b1 b2 b3).2 ≤ 4 ∧ (decodeN n b0 b1 b2 b3).2 ≤ n := by
  unfold decodeN; repeat' split
  all_goals (simp only []; omega)
theorem widN_bd (s : ByteArray) (i : Nat) (hi : i < s.size) : 1 ≤ widN s i ∧ widN s i ≤ 4 ∧ i + widN s i ≤ s.size := by
  unfold widN
  have h1 := width_pos s i
  rw [decode_at] at *
  have := decodeN_4 (s.size - i) (s.get! i).toNat (s.get! (i + 1)).toNat (s.get! (i + 2)).toNat (s.get! (i + 3)).toNat (by omega)
  omega
def goodB (s : ByteArray) (i : Nat) : Bool := !(runeI s i == 65533 && ((widN s i : Nat) : Int) == 1)

def Tabs (w : World) : Prop := Lib.Utf8Tabs 0 1 w
theorem cell_lt {w : World} {b o : Nat} {v : Value} (h : w.cell? ⟨b, o, none⟩ = some v) : b < w.heap.size := World.block_lt_of_cell? w _ h
theorem Tabs.below {w w' : World} (h : Tabs w) {B : Nat} (hB : 0 < B ∧ 1 < B) (hb : Below B w w') : Tabs w' := by
  obtain ⟨h1, h2⟩ := h
  refine ⟨fun c hc => ?_, fun i hi => ⟨?_, ?_⟩⟩
  · rw [hb.cell (p := ⟨_, c, none⟩) hB.1]; exact h1 c hc
  · rw [hb.cell (p := ⟨_, 2 * i, none⟩) hB.2]; exact (h2 i hi).1
  · rw [hb.cell (p := ⟨_, 2 * i + 1, none⟩) hB.2]; exact (h2 i hi).2
theorem Tabs.lt {w : World} (h : Tabs w) : 0 < w.heap.size ∧ 1 < w.heap.size :=
  ⟨cell_lt (h.1 0 (by decide)), cell_lt (h.2 0 (by decide)).1⟩
theorem Tabs.keep {w w' : World} (h : Tabs w) (hb : Below w.heap.size w w') : Tabs w' := h.below h.lt hb

theorem decodeGo_tail (s : ByteArray) (i : Nat) (hi : i < s.size) : Lib.decodeGo (s.extract i s.size) = Utf8.decode s i := by
  have hsz : (s.extract i s.size).size = s.size - i := by rw [ByteArray.size_extract]; omega
  unfold Lib.decodeGo
  rw [if_neg (by omega), Lib.tail_decode, Nat.add_zero]

/-- utf8.DecodeRuneInString(s[i:]). -/
theorem dec_at (s : ByteArray) (i : Nat) (w : World) (hi : i < s.size) (hT : Tabs w) :
    Calls Tryd.prog 22 #[.string (s.extract i s.size)] w fun e w' => e = .returned (.tuple #[.int .i32 (runeI s i), .int .i64 (widN s i)]) ∧ Below w.heap.size w w' := by
  have h := Tryd.utf8_DecodeRuneInString (s.extract i s.size) w hT
  rw [decodeGo_tail s i hi] at h
  exact h

theorem refNext_at (s : ByteArray) (i : Nat) (w : World) (hi : i < s.size) (hs : s.size ≤ 4611686018427387904) :
    Calls Tryd.prog 17 #[.string s, .int .i64 i] w fun e w' => e = .returned (.tuple #[.int .i32 (runeI s i), .int .i64 (widN s i)]) ∧ w = w' := by
  have h := refNext_any s i w hi hs
  rw [refNext_eq s i hi] at h
  exact h

set_option maxHeartbeats 400000 in
theorem next_at (s : ByteArray) (i : Nat) (w : World) (hi : i < s.size) (hT : Tabs w) :
    Calls Tryd.prog 16 #[.string s, .int .i64 i] w fun e w' => e = .returned (.tuple #[.int .i32 (runeI s i), .int .i64 (widN s i)]) ∧ Below w.heap.size w w' := by
  go_enter Tryd.func16, Tryd.ntmps16
  go_wp2_with (go_at_call 22; refine (dec_at s i _ hi hT).mono ?_; rintro e w' ⟨rfl, hb⟩)
  go_ret2
  exact ⟨rfl, hb⟩
set_option maxHeartbeats 400000 in
theorem next_out (s : ByteArray) (a : Int) (w : World) (h : a < 0 ∨ (s.size : Int) ≤ a) :
    Calls Tryd.prog 16 #[.string s, .int .i64 a] w fun e w' => e = .returned (.tuple #[.int .i32 0, .int .i64 0]) ∧ w = w' := by
  by_cases h0 : a < 0
  all_goals
    have h1 : ¬ a < 0 → (s.size : Int) ≤ a := fun _ => by omega
    clear h
    try have h2 := h1 h0
    clear h1
    go_enter Tryd.func16, Tryd.ntmps16
    go_wp2
    all_goals go_ret2
    all_goals exact ⟨rfl, rfl⟩

set_option maxHeartbeats 400000 in
theorem good_at (s : ByteArray) (i : Nat) (w : World) (hi : i < s.size) (hs : s.size ≤ 4611686018427387904) :
    Calls Tryd.prog 27 #[.string s, .int .i64 i] w fun e w' => e = .returned (.bool (goodB s i)) ∧ w = w' := by
  have hw := widN_bd s i hi
  unfold goodB
  have hc := refNext_at s i w hi hs
  generalize runeI s i = c at *
  generalize widN s i = n at *
  have HC := Lib.hid hc; clear hc
  by_cases h1 : (c == 65533) = true
  all_goals
    first | have h1' : (c == 65533) = false := by simpa using h1 | skip
    go_enter Tryd.func27, Tryd.ntmps27
    go_wp2_with (go_at_call 17; refine HC.out.mono ?_; rintro e w' ⟨rfl, rfl⟩)
    all_goals go_ret
    all_goals (refine ⟨ret_bool ?_, rfl⟩; simp_all)
end Go.Proofs.YtbdognlebkagpaaDoor
