import Derived.Test.YtnnlpkbopeiefaaGreatDoorProg
import Derived.Test.YtnnlpkbopeiefaaGreatDoorRnA
import Derived.Test.YtnnlpkbopeiefaaGreatDoorShelf
/-! The tables of unicode/utf8; DecodeRuneInString at a byte of a text. -/
namespace Go.Proofs.YtnnlpkbopeiefaaGreatDoor
set_option linter.unusedSimpArgs false
set_option linter.unusedVariables false
open Go.RowKit
open Go.Lib hiding intOf
def Tabs (w : World) : Prop := Lib.Utf8Tabs 0 1 w
theorem Tabs.below {w w' : World} (h : Tabs w) {B : Nat} (hB : 0 < B ∧ 1 < B) (hb : Below B w w') : Tabs w' := by
  obtain ⟨h1, h2⟩ := h
  refine ⟨fun c hc => ?_, fun i hi => ⟨?_, ?_⟩⟩
  · rw [hb.cell (p := ⟨_, c, none⟩) hB.1]; exact h1 c hc
  · rw [hb.cell (p := ⟨_, 2 * i, none⟩) hB.2]; exact (h2 i hi).1
  · rw [hb.cell (p := ⟨_, 2 * i + 1, none⟩) hB.2]; exact (h2 i hi).2
theorem Tabs.lt {w : World} (h : Tabs w) : 0 < w.heap.size ∧ 1 < w.heap.size :=
  ⟨cell_lt (h.1 0 (by decide)), cell_lt (h.2 0 (by decide)).1⟩
theorem Tabs.keep {w w' : World} (h : Tabs w) (hb : Below w.heap.size w w') : Tabs w' := h.below h.lt hb
theorem decodeGo_tail (s : ByteArray) (i : Nat) (hi : i < s.size) : Lib.decodeGo (s.extract i s.size) = Utf8.decode s i := by
  have hsz : (s.extract i s.size).size = s.size - i := by rw [ByteArray.size_extract]; omega
  unfold Lib.decodeGo
  rw [if_neg (by omega), Lib.tail_decode, Nat.add_zero]
theorem dec_at (s : ByteArray) (i : Nat) (w : World) (hi : i < s.size) (hT : Tabs w) :
    Calls Tryz.prog 92 #[.string (s.extract i s.size)] w fun e w' => e = .returned (.tuple #[.int .i32 (runeI s i), .int .i64 (widN s i)]) ∧ Below w.heap.size w w' := by
  have h := Tryz.utf8_DecodeRuneInString (s.extract i s.size) w hT
  rw [decodeGo_tail s i hi] at h
  exact h
end Go.Proofs.YtnnlpkbopeiefaaGreatDoor
