import Derived.Test.YtnnlpkbopeiefaaGreatDoorSm
import Derived.Lib.AppendStr
import Derived.Lib.UnsafeStr
import Derived.Deep.AppendLies
import Derived.Laws.IdiomStrings
import Derived.Laws.BytesArg
import Derived.Laws.BitsAllLaws
import Derived.Deep.DeepCutAuto
/-! Rows of bytes that a call owns: append of bytes and of a text, the text of a row. -/
namespace Go.Proofs.YtnnlpkbopeiefaaGreatDoor
set_option linter.unusedSimpArgs false
set_option linter.unusedVariables false
open Go.RowKit
open Go.Lib hiding intOf
def OwnB (B : Nat) (w : World) (v : Value) (l : List UInt8) : Prop := w.ownsRow B 5 1 v l.length (byteCells l)
theorem info_u8 : (Tryz.prog.info? 5).map (fun i => (i.zero, i.size, i.bytes)) = some (some (.int .u8 0), 1, 1) := by kernel_rfl
theorem OwnB.nil (B : Nat) (w : World) : OwnB B w (.slice none 0 0) [] := World.ownsRow_nil _ _ _ _
theorem OwnB.new (w : World) (l : List UInt8) (hl : l.length ≤ 4294967296) : OwnB w.heap.size (w.alloc (.cells (byteCells l).toArray 5)) (.slice (some ⟨w.heap.size, 0, none⟩) l.length l.length) l := by
  refine ⟨by rw [byteCells_length, Nat.mul_one], .inr ⟨w.heap.size, l.length, _, rfl, Nat.le_refl _, heap_alloc_new w _, Nat.le_refl _, by unfold maxLen; omega, by rw [List.size_toArray, byteCells_length, Nat.mul_one], ?_⟩⟩
  rw [Nat.mul_one, List.take_of_length_le]
  rw [byteCells_length]; exact Nat.le_refl _
theorem bytes_at (w : World) (m : List UInt8) (cs : Array Value) (t : TypeId) (h : cs.toList = byteCells m) : ∀ j u, (byteCells m)[j]? = some u → (w.alloc (.cells cs t)).cell? ((⟨w.heap.size, 0, none⟩ : Addr).add j) = some u := by
  intro j u hj
  rw [← h] at hj
  exact World.news_of_block (w := w.alloc (.cells cs t)) (heap_alloc_new w _) j u hj
theorem OwnB.lt {B : Nat} {w : World} {v : Value} {l : List UInt8} (h : OwnB B w v l) : ∀ k, v.ownBlock = some k → B ≤ k := fun k hk => by
  have := World.ownsRow.lt h k hk
  exact this.1
/-- 'append(out, c1, ..)': the bytes lie in the block that the statement has just laid. -/
theorem wpList_bytes {ops : Array Oper} {rest : List Oper} {o : Oper} {a : Act} {Q : Exit → Act → World → Prop} (hgd : o.guard = none) (s x : Operand)
    (ho : o.op = .call { callee := .builtin .append, args := #[s, x], argTypes := #[61, 61] })
    (B : Nat) (w : World) (v : Value) (l m : List UInt8) (hs : a.eval s = v) (hown : OwnB B w v l) (cs : Array Value) (hx : a.eval x = .slice (some ⟨w.heap.size, 0, none⟩) m.length m.length)
    (hcs : cs.toList = byteCells m) (hl : l.length + m.length ≤ 8589934592) (hB : B ≤ w.heap.size)
    (h : ∀ v' w', OwnB B w' v' (l ++ m) → Below B w w' → wpList Tryz.prog ops Q rest (a.put o.dst v') w') : wpList Tryz.prog ops Q (o :: rest) a (w.alloc (.cells cs 5)) := by
  obtain ⟨i0, hi0, hz0, hz1, hz2⟩ := info_parts info_u8
  refine wpList_append_own _ hgd s x 61 ho B 5 i0 _ 1 1 Tryz.underlying61 hi0 hz0 hz1 hz2 rfl (by decide) v l.length (byteCells l) hs (hown.alloc _) ⟨w.heap.size, 0, none⟩ m.length m.length (byteCells m) hx (by rw [byteCells_length, Nat.mul_one]) (bytes_at w m cs _ hcs) (byteCells_one m) (by unfold maxLen; omega) (by omega) (by simp; omega) ?_
  intro v' w' h2 h3 _
  refine h v' w' ?_ (((Below.refl B w).alloc hB _).grown h3 (by simp; omega) (fun k hk => OwnB.lt hown k hk))
  unfold OwnB
  rw [List.length_append, byteCells_append]
  exact h2
/-- 'append(out, "ab"...)'. -/
theorem wpList_text {ops : Array Oper} {rest : List Oper} {o : Oper} {a : Act} {Q : Exit → Act → World → Prop} (hgd : o.guard = none) (s x : Operand)
    (ho : o.op = .call { callee := .builtin .append, args := #[s, x], argTypes := #[61, 9] })
    (B : Nat) (w : World) (v : Value) (l : List UInt8) (m : ByteArray) (hs : a.eval s = v) (hown : OwnB B w v l) (hx : a.eval x = .string m)
    (hl : l.length + m.size ≤ 8589934592) (hB : B ≤ w.heap.size)
    (h : ∀ v' w', OwnB B w' v' (l ++ m.data.toList) → Below B w w' → wpList Tryz.prog ops Q rest (a.put o.dst v') w') : wpList Tryz.prog ops Q (o :: rest) a w := by
  obtain ⟨i0, hi0, hz0, hz1, hz2⟩ := info_parts info_u8
  refine wpList_append_own_string (w := w) hgd s x 61 9 ho B 5 i0 Tryz.underlying61 Tryz.underlying9 hi0 hz0 hz1 hz2 v l.length (byteCells l) hs hown m hx (by unfold maxLen; omega) (by omega) hB ?_
  intro v' w' h2 h3 _
  refine h v' w' ?_ ((Below.refl B w).grown h3 hB (fun k hk => OwnB.lt hown k hk))
  unfold OwnB
  rw [List.length_append, byteCells_append]
  exact h2
/-- The same at a step of a region that draws its order. -/
theorem step_bytes {ops : Array Oper} {o : Oper} {a : Act} {K : Act → World → Prop} {Q : Exit → Act → World → Prop} {E : Prop} (hgd : o.guard = none) (s x : Operand)
    (ho : o.op = .call { callee := .builtin .append, args := #[s, x], argTypes := #[61, 61] })
    (B : Nat) (w : World) (v : Value) (l m : List UInt8) (hs : a.eval s = v) (hown : OwnB B w v l) (cs : Array Value) (hx : a.eval x = .slice (some ⟨w.heap.size, 0, none⟩) m.length m.length)
    (hcs : cs.toList = byteCells m) (hl : l.length + m.length ≤ 8589934592) (hm : 0 < m.length) (hB : B ≤ w.heap.size)
    (h : ∀ v' w', OwnB B w' v' (l ++ m) → Below B w w' → K (a.put o.dst v') w') :
    if Region.wanted o (yielded ops a.tmps) = true then Oper.wp Tryz.prog o a (w.alloc (.cells cs 5)) K Q else E := by
  obtain ⟨i0, hi0, hz0, hz1, hz2⟩ := info_parts info_u8
  refine step_append_lies _ hgd s x 61 ho B 5 i0 _ 1 1 Tryz.underlying61 hi0 hz0 hz1 hz2 rfl (by decide) v l.length (byteCells l) hs (hown.alloc _) ⟨w.heap.size, 0, none⟩ m.length m.length (byteCells m) hx (by rw [byteCells_length, Nat.mul_one]) (bytes_at w m cs _ hcs) (byteCells_one m) hm (by unfold maxLen; omega) (by omega) (by simp; omega) _ rfl ?_
  intro g cap w' h2 h3 _ _
  refine h _ w' ?_ (((Below.refl B w).alloc hB _).grown h3 (by simp; omega) (fun k hk => OwnB.lt hown k hk))
  unfold OwnB
  rw [List.length_append, byteCells_append]
  exact h2
/-- 'string(out)'. -/
theorem run_text {B : Nat} {w : World} {v : Value} {l : List UInt8} (h : OwnB B w v l) : (convert 61 9 v).run Tryz.prog w = .ok (.string (bs l)) w := by
  rcases h.2 with ⟨rfl, hx⟩ | ⟨g, cap, cur, rfl, hb, hh, hn, hm, hsz, ht⟩
  · have hl : l = [] := List.eq_nil_of_length_eq_zero hx
    subst hl
    rw [run_convert_bytes_string w _ _ 5 none 0 0 Tryz.underlying61 Tryz.underlying5 Tryz.underlying9]
    simp [Conv.bytesToString]; rfl
  · refine run_convert_bytes_back w _ _ 5 ⟨g, 0, none⟩ cap l Tryz.underlying61 Tryz.underlying5 Tryz.underlying9 (fun j hj => ?_)
    have := World.ownsRow.cells h (g := g) rfl j (.int .u8 (l[j].toNat : Int)) (by unfold byteCells; rw [List.getElem?_map, List.getElem?_eq_getElem hj]; rfl)
    exact this
end Go.Proofs.YtnnlpkbopeiefaaGreatDoor
/-! The walk of strconv.FormatInt at base 16, of numbers below 32. -/
namespace Go.Proofs.YtnnlpkbopeiefaaGreatDoor
set_option linter.unusedSimpArgs false
set_option linter.unusedVariables false
open Go.RowKit
open Go.Lib hiding intOf
def DTab (w : World) : Prop := w.cell? ⟨7, 15, none⟩ = some (.int .u8 4)
theorem DTab.keep {w w' : World} (h : DTab w) (hb : Below w.heap.size w w') : DTab w' := by
  unfold DTab at h ⊢
  rw [hb.cell (p := ⟨_, _, none⟩) (cell_lt h), h]
theorem pow16_any (w : World) : Calls Tryz.prog 279 #[.int .i64 16] w fun e w' => e = .returned (.bool true) ∧ w = w' := by
  have h1 : bits .and .i64 16 15 = 0 := by decide
  go_enter Tryz.func279, Tryz.ntmps279
  go_wp2_with fail
  go_ret
  exact ⟨rfl, rfl⟩
theorem zeros64_any (w : World) (hT : DTab w) : Calls Tryz.prog 297 #[.int .u64 16] w fun e w' => e = .returned (.int .i64 4) ∧ w = w' := by
  unfold DTab at hT
  have h1 : IntKind.u64.wrap (bits .and .u64 16 (IntKind.u64.wrap (-16)) * 285870213051353865) / 288230376151711744 = 15 := by decide
  go_enter Tryz.func297, Tryz.ntmps297
  go_wp2_with fail
  go_ret
  exact ⟨rfl, rfl⟩
theorem zerosU_any (w : World) (hT : DTab w) : Calls Tryz.prog 280 #[.int .u64 16] w fun e w' => e = .returned (.int .i64 4) ∧ w = w' := by
  go_enter Tryz.func280, Tryz.ntmps280
  go_wp2_with (go_at_call 297; refine (zeros64_any _ hT).mono ?_; rintro e w' ⟨rfl, rfl⟩)
  go_ret
  exact ⟨rfl, rfl⟩
theorem and15 : ∀ n : Fin 32, bits .and .u64 (n.val : Int) 15 = ((n.val % 16 : Nat) : Int) := by decide
/-- A digit of base 16, as a byte. -/
def hexC (n : Nat) : UInt8 := UInt8.ofNat (if n < 10 then 48 + n else 87 + n)
def digT : ByteArray := ⟨#[48, 49, 50, 51, 52, 53, 54, 55, 56, 57, 97, 98, 99, 100, 101, 102, 103, 104, 105, 106, 107, 108, 109, 110, 111, 112, 113, 114, 115, 116, 117, 118, 119, 120, 121, 122]⟩
theorem digT_all : ∀ k : Fin 16, digT.data.toList[k.val]? = some (hexC k.val) := by decide
theorem digT_at (n : Nat) (h : n < 16) (h2 : n < digT.size) : digT[n]'h2 = hexC n := by
  have h1 : digT.data.toList[n]? = some (hexC n) := digT_all ⟨n, h⟩
  have h3 : digT.data.toList[n]? = some (digT[n]'h2) := by rw [Array.getElem?_toList]; exact Array.getElem?_eq_getElem h2
  rw [h3] at h1
  exact Option.some.inj h1
theorem new_cells (w : World) (k : Nat) (hk : k < 65) : (w.alloc (.cells Tryz.zeroCells259 259)).cell? ⟨w.heap.size, k, none⟩ = some (.int .u8 0) := by
  rw [World.cell?_alloc_new]
  have : ∀ j : Fin 65, (Tryz.zeroCells259)[j.val]? = some (.int .u8 0) := by
    have e : Tryz.zeroCells259 = Array.replicate 65 (.int .u8 0) := by kernel_rfl
    intro j
    rw [e, Array.getElem?_replicate, if_pos j.isLt]
  exact this ⟨k, hk⟩
theorem add_plain' (b o j : Nat) : (⟨b, o, none⟩ : Addr).add j = ⟨b, o + j, none⟩ := by
  unfold Addr.add
  split
  · rename_i h; subst h; rfl
  · rfl
theorem conv_lo (w : World) (x : UInt8) : (convert 61 9 (.slice (some ⟨w.heap.size, 64, none⟩) 1 1)).run Tryz.prog (w.alloc (.cells ((Tryz.zeroCells259).setIfInBounds 64 (.int .u8 (x.toNat : Int))) 259)) = .ok (.string (bs [x])) (w.alloc (.cells ((Tryz.zeroCells259).setIfInBounds 64 (.int .u8 (x.toNat : Int))) 259)) := by
  refine run_convert_bytes_back _ _ _ 5 ⟨w.heap.size, 64, none⟩ 1 [x] Tryz.underlying61 Tryz.underlying5 Tryz.underlying9 (fun j hj => ?_)
  obtain rfl : j = 0 := by simp at hj; omega
  rw [add_plain', World.cell?_alloc_new]
  have e : Tryz.zeroCells259 = Array.replicate 65 (.int .u8 0) := by kernel_rfl
  rw [e]; simp
theorem conv_hi (w : World) (x y : UInt8) : (convert 61 9 (.slice (some ⟨w.heap.size, 63, none⟩) 2 2)).run Tryz.prog (w.alloc (.cells (((Tryz.zeroCells259).setIfInBounds 64 (.int .u8 (x.toNat : Int))).setIfInBounds 63 (.int .u8 (y.toNat : Int))) 259)) = .ok (.string (bs [y, x])) (w.alloc (.cells (((Tryz.zeroCells259).setIfInBounds 64 (.int .u8 (x.toNat : Int))).setIfInBounds 63 (.int .u8 (y.toNat : Int))) 259)) := by
  refine run_convert_bytes_back _ _ _ 5 ⟨w.heap.size, 63, none⟩ 2 [y, x] Tryz.underlying61 Tryz.underlying5 Tryz.underlying9 (fun j hj => ?_)
  have e : Tryz.zeroCells259 = Array.replicate 65 (.int .u8 0) := by kernel_rfl
  rw [add_plain', World.cell?_alloc_new, e]
  match j, hj with
  | 0, _ => simp
  | 1, _ => simp
  | (j + 2), hj => exact absurd hj (by simp)
theorem hexC_at (n : Nat) (h : n < 16) (h2 : n < (⟨#[48, 49, 50, 51, 52, 53, 54, 55, 56, 57, 97, 98, 99, 100, 101, 102, 103, 104, 105, 106, 107, 108, 109, 110, 111, 112, 113, 114, 115, 116, 117, 118, 119, 120, 121, 122]⟩ : ByteArray).size) :
    (⟨#[48, 49, 50, 51, 52, 53, 54, 55, 56, 57, 97, 98, 99, 100, 101, 102, 103, 104, 105, 106, 107, 108, 109, 110, 111, 112, 113, 114, 115, 116, 117, 118, 119, 120, 121, 122]⟩ : ByteArray)[n]'h2 = hexC n := digT_at n h h2
theorem ret_fmt {a b : ByteArray} (h : a = b) : Ending.returned (.tuple #[.slice none 0 0, .string a]) = .returned (.tuple #[.slice none 0 0, .string b]) := by rw [h]
set_option maxRecDepth 100000 in
set_option maxHeartbeats 2000000 in
theorem fmtBits_lo (c : Nat) (hc : c < 16) (w : World) (hT : DTab w) : Calls Tryz.prog 260 #[.slice none 0 0, .int .u64 c, .int .i64 16, .bool false, .bool false] w fun e w' => e = .returned (.tuple #[.slice none 0 0, .string (bs [hexC c])]) ∧ Below w.heap.size w w' := by
  have HT := Lib.hid hT; clear hT
  have hn := new_cells w 64 (by omega)
  have hcv := conv_lo w
  go_enter Tryz.func260, Tryz.ntmps260
  go_wp2_with (first | (go_at_call 279; refine (pow16_any _).mono ?_; rintro e w' ⟨rfl, rfl⟩) | (go_at_call 280; refine (zerosU_any _ (HT.out.keep (below_alloc1 _ _))).mono ?_; rintro e w' ⟨rfl, rfl⟩))
  go_loop [1, 13] (fun u i => u = .int .u64 c ∧ i = .int .i64 65) (fun _ _ => 0)
  case atStart => exact ⟨rfl, rfl⟩
  case round =>
    obtain ⟨rfl, rfl⟩ := hrel
    go_wp2_with fail
    go_ret2
    exact ⟨ret_fmt (congrArg (fun z => bs [z]) (hexC_at c hc (by show c < 36; omega))), below_alloc1 _ _⟩
set_option maxRecDepth 100000 in
set_option maxHeartbeats 2000000 in
theorem fmtBits_hi (c : Nat) (h16 : 16 ≤ c) (hc : c < 32) (w : World) (hT : DTab w) : Calls Tryz.prog 260 #[.slice none 0 0, .int .u64 c, .int .i64 16, .bool false, .bool false] w fun e w' => e = .returned (.tuple #[.slice none 0 0, .string (bs [49, hexC (c - 16)])]) ∧ Below w.heap.size w w' := by
  have HT := Lib.hid hT; clear hT
  have hn := new_cells w 64 (by omega)
  have hn2 := new_cells w 63 (by omega)
  have hcv := conv_hi w
  obtain ⟨d, rfl⟩ : ∃ d, c = d + 16 := ⟨c - 16, by omega⟩
  have ha := and15 ⟨d + 16, hc⟩
  simp only [] at ha
  rw [show (d + 16) % 16 = d by omega, show ((d + 16 : Nat) : Int) = (d : Int) + 16 by omega] at ha
  have hs : ((d : Int) + 16) / 16 = 1 := by omega
  have hd0 : (0 : Int) ≤ (d : Int) := by omega
  have hd1 : (d : Int) < 36 := by omega
  go_enter Tryz.func260, Tryz.ntmps260
  go_wp2_with (first | (go_at_call 279; refine (pow16_any _).mono ?_; rintro e w' ⟨rfl, rfl⟩) | (go_at_call 280; refine (zerosU_any _ (HT.out.keep (below_alloc1 _ _))).mono ?_; rintro e w' ⟨rfl, rfl⟩))
  go_loopw [1, 13] (fun u i wr => ∃ z : Nat, (z = 0 ∧ u = .int .u64 ((d + 16 : Nat) : Int) ∧ i = .int .i64 65 ∧ wr = w.alloc (.cells Tryz.zeroCells259 259)) ∨ (z = 1 ∧ u = .int .u64 1 ∧ i = .int .i64 64 ∧ wr = w.alloc (.cells ((Tryz.zeroCells259).setIfInBounds 64 (.int .u8 ((hexC d).toNat : Int))) 259))) (fun _ i _ => (RowKit.intOf i).toNat)
  case atStart => exact ⟨0, .inl ⟨rfl, rfl, rfl, rfl⟩⟩
  case round =>
    obtain ⟨z, ⟨rfl, rfl, rfl, rfl⟩ | ⟨rfl, rfl, rfl, rfl⟩⟩ := hrel
    · go_wp2_with fail
      go_roundw
      case rel => exact ⟨1, .inr ⟨rfl, rfl, by go_num, by rw [← hexC_at d (by omega) (by show d < 36; omega)]⟩⟩
      case measure => simp [RowKit.intOf]
    · go_wp2_with fail
      go_ret2
      exact ⟨ret_fmt (by rw [show d + 16 - 16 = d by omega]; exact congrArg (fun z => bs [z, hexC d]) (hexC_at 1 (by omega) (by show 1 < 36; omega))), below_alloc1 _ _⟩
/-- What FormatInt writes at base 16, below 32. -/
def hexS (c : Nat) : List UInt8 := if c < 16 then [hexC c] else [49, hexC (c - 16)]
theorem fmtBits_any (c : Nat) (hc : c < 32) (w : World) (hT : DTab w) : Calls Tryz.prog 260 #[.slice none 0 0, .int .u64 c, .int .i64 16, .bool false, .bool false] w fun e w' => e = .returned (.tuple #[.slice none 0 0, .string (bs (hexS c))]) ∧ Below w.heap.size w w' := by
  unfold hexS
  by_cases h : c < 16
  · rw [if_pos h]; exact fmtBits_lo c h w hT
  · rw [if_neg h]; exact fmtBits_hi c (by omega) hc w hT
theorem fmtInner_any (c : Nat) (hc : c < 32) (w : World) (hT : DTab w) : Calls Tryz.prog 218 #[.int .i64 c, .int .i64 16] w fun e w' => e = .returned (.string (bs (hexS c))) ∧ Below w.heap.size w w' := by
  have C := Lib.hid (fun w hT => fmtBits_any c hc w hT)
  have HT := Lib.hid hT; clear hT
  go_enter Tryz.func218, Tryz.ntmps218
  go_wp2_with fail
  refine (C.out _ HT.out).mono ?_
  rintro e w1 ⟨rfl, hb1⟩
  go_wp2_with fail
  go_ret
  exact ⟨rfl, hb1⟩
theorem fmt16_any (c : Nat) (hc : c < 32) (w : World) (hT : DTab w) : Calls Tryz.prog 172 #[.int .i64 c, .int .i64 16] w fun e w' => e = .returned (.string (bs (hexS c))) ∧ Below w.heap.size w w' := by
  have C := Lib.hid (fun w hT => fmtInner_any c hc w hT)
  have HT := Lib.hid hT; clear hT
  go_enter Tryz.func172, Tryz.ntmps172
  go_wp2_with fail
  refine (C.out _ HT.out).mono ?_
  rintro e w1 ⟨rfl, hb1⟩
  go_wp2_with fail
  go_ret
  exact ⟨rfl, hb1⟩
end Go.Proofs.YtnnlpkbopeiefaaGreatDoor
/-! strings.Repeat of "0". -/
namespace Go.Proofs.YtnnlpkbopeiefaaGreatDoor
set_option linter.unusedSimpArgs false
set_option linter.unusedVariables false
open Go.RowKit
open Go.Lib hiding intOf
theorem zeros_any (e : Nat) (w : World) (he : e ≤ 1000000) :
    Calls Tryz.prog 107 #[.string ⟨#[48]⟩, .int .i64 e] w fun en w' => en = .returned (.string (bs (List.replicate e 48))) ∧ Below w.heap.size w w' := by
  have h := Tryz.strings_Repeat ⟨#[48]⟩ e w (by omega) (by show 1 * e ≤ _; omega)
  have hr : Lib.repeatL (⟨#[48]⟩ : ByteArray).data.toList e = List.replicate e 48 := by
    show Lib.repeatL [48] e = _
    clear h he
    induction e with
    | zero => rfl
    | succ k ih => rw [show Lib.repeatL [48] (k + 1) = [48] ++ Lib.repeatL [48] k from rfl, ih, List.replicate_succ]; rfl
  rw [hr] at h
  exact h
end Go.Proofs.YtnnlpkbopeiefaaGreatDoor
