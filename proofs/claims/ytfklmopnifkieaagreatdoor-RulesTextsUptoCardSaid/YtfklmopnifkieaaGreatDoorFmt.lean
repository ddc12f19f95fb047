import Derived.Test.YtfklmopnifkieaaGreatDoorSm
import Derived.Laws.BytesArg
import Derived.Laws.IdiomStrings
import Derived.Laws.BitsAllLaws
import Derived.Deep.DeepCutAuto
/-! The walk of strconv.FormatInt at base 16, of numbers below 32. -/
namespace Go.Proofs.YtfklmopnifkieaaGreatDoor
set_option linter.unusedSimpArgs false
set_option linter.unusedVariables false
open Go.RowKit
open Go.Lib hiding intOf

def DTab (w : World) : Prop := w.cell? ⟨5, 15, none⟩ = some (.int .u8 4)
theorem DTab.keep {w w' : World} (h : DTab w) (hb : Below w.heap.size w w') : DTab w' := by
  unfold DTab at h ⊢
  rw [hb.cell (p := ⟨_, _, none⟩) (cell_lt h), h]
theorem pow16_any (w : World) : Calls Tryz.prog 114 #[.int .i64 16] w fun e w' => e = .returned (.bool true) ∧ w = w' := by
  have h1 : bits .and .i64 16 15 = 0 := by decide
  go_enter Tryz.func114, Tryz.ntmps114
  go_wp2_with fail
  go_ret
  exact ⟨rfl, rfl⟩
theorem zeros64_any (w : World) (hT : DTab w) : Calls Tryz.prog 120 #[.int .u64 16] w fun e w' => e = .returned (.int .i64 4) ∧ w = w' := by
  unfold DTab at hT
  have h1 : IntKind.u64.wrap (bits .and .u64 16 (IntKind.u64.wrap (-16)) * 285870213051353865) / 288230376151711744 = 15 := by decide
  go_enter Tryz.func120, Tryz.ntmps120
  go_wp2_with fail
  go_ret
  exact ⟨rfl, rfl⟩
theorem zerosU_any (w : World) (hT : DTab w) : Calls Tryz.prog 115 #[.int .u64 16] w fun e w' => e = .returned (.int .i64 4) ∧ w = w' := by
  go_enter Tryz.func115, Tryz.ntmps115
  go_wp2_with (go_at_call 120; refine (zeros64_any _ hT).mono ?_; rintro e w' ⟨rfl, rfl⟩)
  go_ret
  exact ⟨rfl, rfl⟩
theorem and15 : ∀ n : Fin 32, bits .and .u64 (n.val : Int) 15 = ((n.val % 16 : Nat) : Int) := by decide
/-- A digit of base 16, as a byte. -/
def hexC (n : Nat) : UInt8 := UInt8.ofNat (if n < 10 then 48 + n else 87 + n)
def digT : ByteArray := ⟨#[48, 49, 50, 51, 52, 53, 54, 55, 56, 57, 97, 98, 99, 100, 101, 102, 103, 104, 105, 106, 107, 108, 109, 110, 111, 112, 113, 114, 115, 116, 117, 118, 119, 120, 121, 122]⟩
theorem digT_all : ∀ k : Fin 16, digT.data.toList[k.val]? = some (hexC k.val) := by decide
theorem digT_at (n : Nat) (h : n < 16) (h2 : n < digT.size) : digT[n]'h2 = hexC n := by
  have h1 : digT.data.toList[n]? = some (hexC n) := digT_all ⟨n, h⟩
  have h3 : digT.data.toList[n]? = some (digT[n]'h2) := by rw [Array.getElem?_toList]; exact Array.getElem?_eq_getElem h2
  rw [h3] at h1
  exact Option.some.inj h1
theorem new_cells (w : World) (k : Nat) (hk : k < 65) : (w.alloc (.cells Tryz.zeroCells125 125)).cell? ⟨w.heap.size, k, none⟩ = some (.int .u8 0) := by
  rw [World.cell?_alloc_new]
  have : ∀ j : Fin 65, (Tryz.zeroCells125)[j.val]? = some (.int .u8 0) := by
    have e : Tryz.zeroCells125 = Array.replicate 65 (.int .u8 0) := by kernel_rfl
    intro j
    rw [e, Array.getElem?_replicate, if_pos j.isLt]
  exact this ⟨k, hk⟩
theorem add_plain' (b o j : Nat) : (⟨b, o, none⟩ : Addr).add j = ⟨b, o + j, none⟩ := by
  unfold Addr.add
  split
  · rename_i h; subst h; rfl
  · rfl
theorem conv_lo (w : World) (x : UInt8) : (convert 49 9 (.slice (some ⟨w.heap.size, 64, none⟩) 1 1)).run Tryz.prog (w.alloc (.cells ((Tryz.zeroCells125).setIfInBounds 64 (.int .u8 (x.toNat : Int))) 125)) = .ok (.string (bs [x])) (w.alloc (.cells ((Tryz.zeroCells125).setIfInBounds 64 (.int .u8 (x.toNat : Int))) 125)) := by
  refine run_convert_bytes_back _ _ _ 5 ⟨w.heap.size, 64, none⟩ 1 [x] Tryz.underlying49 Tryz.underlying5 Tryz.underlying9 (fun j hj => ?_)
  obtain rfl : j = 0 := by simp at hj; omega
  rw [add_plain', World.cell?_alloc_new]
  have e : Tryz.zeroCells125 = Array.replicate 65 (.int .u8 0) := by kernel_rfl
  rw [e]; simp
theorem conv_hi (w : World) (x y : UInt8) : (convert 49 9 (.slice (some ⟨w.heap.size, 63, none⟩) 2 2)).run Tryz.prog (w.alloc (.cells (((Tryz.zeroCells125).setIfInBounds 64 (.int .u8 (x.toNat : Int))).setIfInBounds 63 (.int .u8 (y.toNat : Int))) 125)) = .ok (.string (bs [y, x])) (w.alloc (.cells (((Tryz.zeroCells125).setIfInBounds 64 (.int .u8 (x.toNat : Int))).setIfInBounds 63 (.int .u8 (y.toNat : Int))) 125)) := by
  refine run_convert_bytes_back _ _ _ 5 ⟨w.heap.size, 63, none⟩ 2 [y, x] Tryz.underlying49 Tryz.underlying5 Tryz.underlying9 (fun j hj => ?_)
  have e : Tryz.zeroCells125 = Array.replicate 65 (.int .u8 0) := by kernel_rfl
  rw [add_plain', World.cell?_alloc_new, e]
  match j, hj with
  | 0, _ => simp
  | 1, _ => simp
  | (j + 2), hj => exact absurd hj (by simp)
theorem hexC_at (n : Nat) (h : n < 16) (h2 : n < (⟨#[48, 49, 50, 51, 52, 53, 54, 55, 56, 57, 97, 98, 99, 100, 101, 102, 103, 104, 105, 106, 107, 108, 109, 110, 111, 112, 113, 114, 115, 116, 117, 118, 119, 120, 121, 122]⟩ : ByteArray).size) :
    (⟨#[48, 49, 50, 51, 52, 53, 54, 55, 56, 57, 97, 98, 99, 100, 101, 102, 103, 104, 105, 106, 107, 108, 109, 110, 111, 112, 113, 114, 115, 116, 117, 118, 119, 120, 121, 122]⟩ : ByteArray)[n]'h2 = hexC n := digT_at n h h2
theorem ret_fmt {a b : ByteArray} (h : a = b) : Ending.returned (.tuple #[.slice none 0 0, .string a]) = .returned (.tuple #[.slice none 0 0, .string b]) := by rw [h]
set_option maxRecDepth 100000 in
set_option maxHeartbeats 2000000 in
theorem fmtBits_lo (c : Nat) (hc : c < 16) (w : World) (hT : DTab w) : Calls Tryz.prog 100 #[.slice none 0 0, .int .u64 c, .int .i64 16, .bool false, .bool false] w fun e w' => e = .returned (.tuple #[.slice none 0 0, .string (bs [hexC c])]) ∧ Below w.heap.size w w' := by
  have HT := Lib.hid hT; clear hT
  have hn := new_cells w 64 (by omega)
  have hcv := conv_lo w
  go_enter Tryz.func100, Tryz.ntmps100
  go_wp2_with (first | (go_at_call 114; refine (pow16_any _).mono ?_; rintro e w' ⟨rfl, rfl⟩) | (go_at_call 115; refine (zerosU_any _ (HT.out.keep (below_alloc1 _ _))).mono ?_; rintro e w' ⟨rfl, rfl⟩))
  go_loop [1, 13] (fun u i => u = .int .u64 c ∧ i = .int .i64 65) (fun _ _ => 0)
  case atStart => exact ⟨rfl, rfl⟩
  case round =>
    obtain ⟨rfl, rfl⟩ := hrel
    go_wp2_with fail
    go_ret2
    exact ⟨ret_fmt (congrArg (fun z => bs [z]) (hexC_at c hc (by show c < 36; omega))), below_alloc1 _ _⟩
set_option maxRecDepth 100000 in
set_option maxHeartbeats 2000000 in
theorem fmtBits_hi (c : Nat) (h16 : 16 ≤ c) (hc : c < 32) (w : World) (hT : DTab w) : Calls Tryz.prog 100 #[.slice none 0 0, .int .u64 c, .int .i64 16, .bool false, .bool false] w fun e w' => e = .returned (.tuple #[.slice none 0 0, .string (bs [49, hexC (c - 16)])]) ∧ Below w.heap.size w w' := by
  have HT := Lib.hid hT; clear hT
  have hn := new_cells w 64 (by omega)
  have hn2 := new_cells w 63 (by omega)
  have hcv := conv_hi w
  obtain ⟨d, rfl⟩ : ∃ d, c = d + 16 := ⟨c - 16, by omega⟩
  have ha := and15 ⟨d + 16, hc⟩
  simp only [] at ha
  rw [show (d + 16) % 16 = d by omega, show ((d + 16 : Nat) : Int) = (d : Int) + 16 by omega] at ha
  have hs : ((d : Int) + 16) / 16 = 1 := by omega
  have hd0 : (0 : Int) ≤ (d : Int) := by omega
  have hd1 : (d : Int) < 36 := by omega
  go_enter Tryz.func100, Tryz.ntmps100
  go_wp2_with (first | (go_at_call 114; refine (pow16_any _).mono ?_; rintro e w' ⟨rfl, rfl⟩) | (go_at_call 115; refine (zerosU_any _ (HT.out.keep (below_alloc1 _ _))).mono ?_; rintro e w' ⟨rfl, rfl⟩))
  go_loopw [1, 13] (fun u i wr => ∃ z : Nat, (z = 0 ∧ u = .int .u64 ((d + 16 : Nat) : Int) ∧ i = .int .i64 65 ∧ wr = w.alloc (.cells Tryz.zeroCells125 125)) ∨ (z = 1 ∧ u = .int .u64 1 ∧ i = .int .i64 64 ∧ wr = w.alloc (.cells ((Tryz.zeroCells125).setIfInBounds 64 (.int .u8 ((hexC d).toNat : Int))) 125))) (fun _ i _ => (RowKit.intOf i).toNat)
  case atStart => exact ⟨0, .inl ⟨rfl, rfl, rfl, rfl⟩⟩
  case round =>
    obtain ⟨z, ⟨rfl, rfl, rfl, rfl⟩ | ⟨rfl, rfl, rfl, rfl⟩⟩ := hrel
    · go_wp2_with fail
      go_roundw
      case rel => exact ⟨1, .inr ⟨rfl, rfl, by go_num, by rw [← hexC_at d (by omega) (by show d < 36; omega)]⟩⟩
      case measure => simp [RowKit.intOf]
    · go_wp2_with fail
      go_ret2
      exact ⟨ret_fmt (by rw [show d + 16 - 16 = d by omega]; exact congrArg (fun z => bs [z, hexC d]) (hexC_at 1 (by omega) (by show 1 < 36; omega))), below_alloc1 _ _⟩
/-- What FormatInt writes at base 16, below 32. -/
def hexS (c : Nat) : List UInt8 := if c < 16 then [hexC c] else [49, hexC (c - 16)]
theorem fmtBits_any (c : Nat) (hc : c < 32) (w : World) (hT : DTab w) : Calls Tryz.prog 100 #[.slice none 0 0, .int .u64 c, .int .i64 16, .bool false, .bool false] w fun e w' => e = .returned (.tuple #[.slice none 0 0, .string (bs (hexS c))]) ∧ Below w.heap.size w w' := by
  unfold hexS
  by_cases h : c < 16
  · rw [if_pos h]; exact fmtBits_lo c h w hT
  · rw [if_neg h]; exact fmtBits_hi c (by omega) hc w hT
theorem fmtInner_any (c : Nat) (hc : c < 32) (w : World) (hT : DTab w) : Calls Tryz.prog 81 #[.int .i64 c, .int .i64 16] w fun e w' => e = .returned (.string (bs (hexS c))) ∧ Below w.heap.size w w' := by
  have C := Lib.hid (fun w hT => fmtBits_any c hc w hT)
  have HT := Lib.hid hT; clear hT
  go_enter Tryz.func81, Tryz.ntmps81
  go_wp2_with fail
  refine (C.out _ HT.out).mono ?_
  rintro e w1 ⟨rfl, hb1⟩
  go_wp2_with fail
  go_ret
  exact ⟨rfl, hb1⟩
theorem fmt16_any (c : Nat) (hc : c < 32) (w : World) (hT : DTab w) : Calls Tryz.prog 67 #[.int .i64 c, .int .i64 16] w fun e w' => e = .returned (.string (bs (hexS c))) ∧ Below w.heap.size w w' := by
  have C := Lib.hid (fun w hT => fmtInner_any c hc w hT)
  have HT := Lib.hid hT; clear hT
  go_enter Tryz.func67, Tryz.ntmps67
  go_wp2_with fail
  refine (C.out _ HT.out).mono ?_
  rintro e w1 ⟨rfl, hb1⟩
  go_wp2_with fail
  go_ret
  exact ⟨rfl, hb1⟩
end Go.Proofs.YtfklmopnifkieaaGreatDoor
