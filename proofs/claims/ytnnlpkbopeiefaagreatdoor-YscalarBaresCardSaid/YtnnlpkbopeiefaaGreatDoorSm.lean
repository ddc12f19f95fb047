import Derived.Test.YtnnlpkbopeiefaaGreatDoorShelf
import Derived.Test.YtnnlpkbopeiefaaGreatDoorBase
import Derived.Test.YtnnlpkbopeiefaaGreatDoorRnA
import Derived.Test.YtnnlpkbopeiefaaGreatDoorNumA
import Derived.Lib.IndexBytes
/-! Small words over the program: texts as lists, variables behind a call. -/
namespace Go.Proofs.YtnnlpkbopeiefaaGreatDoor
set_option linter.unusedSimpArgs false
set_option linter.unusedVariables false
open Go.RowKit
open Go.Lib hiding intOf
theorem bs_back (s : ByteArray) (k : Nat) : s.extract k s.size = bs (s.data.toList.drop k) := by rw [← bs_of (s.extract k s.size), Lib.extract_to_end]
theorem head_at (s : ByteArray) (h : 0 < s.size) : s.data.toList.head? = some (s[0]'h) := by
  rw [List.head?_eq_getElem?, Array.getElem?_toList, Array.getElem?_eq_getElem h]; rfl
theorem bs_extract (s : ByteArray) (a b : Nat) : s.extract a b = bs ((s.data.toList.drop a).take (b - a)) := by
  rw [← bs_of (s.extract a b), Lib.extract_data]
theorem bs_front (s : ByteArray) (k : Nat) : s.extract 0 k = bs (s.data.toList.take k) := by rw [bs_extract, List.drop_zero, Nat.sub_zero]
theorem bs_append (a b : List UInt8) : bs a ++ bs b = bs (a ++ b) := by
  rw [← bs_of (bs a ++ bs b), ByteArray.data_append, Array.toList_append, bs_data, bs_data]
theorem bs_from (l : List UInt8) (k n : Nat) (h : n = l.length) : (bs l).extract k n = bs (l.drop k) := by
  have := bs_back (bs l) k
  rw [bs_data, bs_size] at this; rw [h, this]
theorem byte_eq (b c : UInt8) (n : Int) (hn : n = c.toNat) : ((b.toNat : Int) == n) = (b == c) := by
  rw [hn]
  by_cases hc : b = c
  · rw [hc]; simp
  · rw [beq_eq_false_iff_ne.2 (by intro e; apply hc; apply UInt8.toNat_inj.1; omega), beq_eq_false_iff_ne.2 hc]
theorem byte_ne (b c : UInt8) (n : Int) (hn : n = c.toNat) : ((b.toNat : Int) != n) = !(b == c) := by rw [bne, byte_eq b c n hn]
theorem head_is (l : List UInt8) (c : UInt8) (n : Int) (hn : n = c.toNat) (h : 0 < (bs l).size) : (((((bs l)[0]'h).toNat : Int)) == n) = (l.head? == some c) := by
  have h1 := head_at (bs l) h
  rw [bs_data] at h1
  rw [h1, hn]
  by_cases hc : (bs l)[0]'h = c
  · rw [hc]; simp
  · rw [beq_eq_false_iff_ne.2 (by intro e; apply hc; apply UInt8.toNat_inj.1; omega), beq_eq_false_iff_ne.2 (by simpa using hc)]
theorem var_keep {w w' : World} {n : String} {v : Array Value} (h : w.var? Tryz.prog n = some v) (hb : Below w.heap.size w w') : w'.var? Tryz.prog n = some v := by
  unfold World.var? at h ⊢
  cases hg : Tryz.prog.globalNamed n with
  | none => rw [hg] at h; cases h
  | some g =>
    rw [hg] at h
    simp only [Option.bind_some] at h ⊢
    cases ho : w.heap[g]? with
    | none => rw [ho] at h; cases h
    | some o => rw [hb.block g (cell_it ho), ho]; rw [ho] at h; exact h
theorem below_alloc1 (w : World) (o : Obj) : Below w.heap.size w (w.alloc o) := (Below.refl _ _).alloc (Nat.le_refl _) _
theorem toU8 (b : UInt8) : ((b.toNat : Int)).toNat.toUInt8 = b := by
  rw [Int.toNat_natCast]; exact UInt8.ofNat_toNat
theorem index_in (A : ByteArray) (b : UInt8) (w : World) :
    Calls Tryz.prog 78 #[.string A, .int .u8 (b.toNat : Int)] w fun e w' => e = .returned (.int .i64 (Lib.indexByte A.data.toList b)) ∧ w = w' := by
  have h := Tryz.strings_IndexByte A (b.toNat : Int) w
  rw [toU8] at h
  exact h.mono fun _ _ ⟨a, b⟩ => ⟨a, b.symm⟩
end Go.Proofs.YtnnlpkbopeiefaaGreatDoor
