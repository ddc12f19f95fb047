import Derived.Test.YtfklmopnifkieaaGreatDoorSm
import Derived.Lib.AppendStr
import Derived.Lib.UnsafeStr
import Derived.Deep.AppendLies
import Derived.Laws.IdiomStrings
/-! Rows of bytes that a call owns: append of bytes and of a text, the text of a row. -/
namespace Go.Proofs.YtfklmopnifkieaaGreatDoor
set_option linter.unusedSimpArgs false
set_option linter.unusedVariables false
open Go.RowKit
open Go.Lib hiding intOf

def OwnB (B : Nat) (w : World) (v : Value) (l : List UInt8) : Prop := w.ownsRow B 5 1 v l.length (byteCells l)
theorem info_u8 : (Tryz.prog.info? 5).map (fun i => (i.zero, i.size, i.bytes)) = some (some (.int .u8 0), 1, 1) := by kernel_rfl
theorem OwnB.nil (B : Nat) (w : World) : OwnB B w (.slice none 0 0) [] := World.ownsRow_nil _ _ _ _
theorem OwnB.new (w : World) (l : List UInt8) (hl : l.length ≤ 4294967296) : OwnB w.heap.size (w.alloc (.cells (byteCells l).toArray 5)) (.slice (some ⟨w.heap.size, 0, none⟩) l.length l.length) l := by
  refine ⟨by rw [byteCells_length, Nat.mul_one], .inr ⟨w.heap.size, l.length, _, rfl, Nat.le_refl _, heap_alloc_new w _, Nat.le_refl _, by unfold maxLen; omega, by rw [List.size_toArray, byteCells_length, Nat.mul_one], ?_⟩⟩
  rw [Nat.mul_one, List.take_of_length_le]
  rw [byteCells_length]; exact Nat.le_refl _
theorem bytes_at (w : World) (m : List UInt8) (cs : Array Value) (t : TypeId) (h : cs.toList = byteCells m) : ∀ j u, (byteCells m)[j]? = some u → (w.alloc (.cells cs t)).cell? ((⟨w.heap.size, 0, none⟩ : Addr).add j) = some u := by
  intro j u hj
  rw [← h] at hj
  exact World.news_of_block (w := w.alloc (.cells cs t)) (heap_alloc_new w _) j u hj
theorem OwnB.lt {B : Nat} {w : World} {v : Value} {l : List UInt8} (h : OwnB B w v l) : ∀ k, v.ownBlock = some k → B ≤ k := fun k hk => by
  have := World.ownsRow.lt h k hk
  exact this.1
/-- 'append(out, c1, ..)': the bytes lie in the block that the statement has just laid. -/
theorem wpList_bytes {ops : Array Oper} {rest : List Oper} {o : Oper} {a : Act} {Q : Exit → Act → World → Prop} (hgd : o.guard = none) (s x : Operand)
    (ho : o.op = .call { callee := .builtin .append, args := #[s, x], argTypes := #[49, 49] })
    (B : Nat) (w : World) (v : Value) (l m : List UInt8) (hs : a.eval s = v) (hown : OwnB B w v l) (cs : Array Value) (hx : a.eval x = .slice (some ⟨w.heap.size, 0, none⟩) m.length m.length)
    (hcs : cs.toList = byteCells m) (hl : l.length + m.length ≤ 8589934592) (hB : B ≤ w.heap.size)
    (h : ∀ v' w', OwnB B w' v' (l ++ m) → Below B w w' → wpList Tryz.prog ops Q rest (a.put o.dst v') w') : wpList Tryz.prog ops Q (o :: rest) a (w.alloc (.cells cs 5)) := by
  obtain ⟨i0, hi0, hz0, hz1, hz2⟩ := info_parts info_u8
  refine wpList_append_own _ hgd s x 49 ho B 5 i0 _ 1 1 Tryz.underlying49 hi0 hz0 hz1 hz2 rfl (by decide) v l.length (byteCells l) hs (hown.alloc _) ⟨w.heap.size, 0, none⟩ m.length m.length (byteCells m) hx (by rw [byteCells_length, Nat.mul_one]) (bytes_at w m cs _ hcs) (byteCells_one m) (by unfold maxLen; omega) (by omega) (by simp; omega) ?_
  intro v' w' h2 h3 _
  refine h v' w' ?_ (((Below.refl B w).alloc hB _).grown h3 (by simp; omega) (fun k hk => OwnB.lt hown k hk))
  unfold OwnB
  rw [List.length_append, byteCells_append]
  exact h2
/-- 'append(out, "ab"...)'. -/
theorem wpList_text {ops : Array Oper} {rest : List Oper} {o : Oper} {a : Act} {Q : Exit → Act → World → Prop} (hgd : o.guard = none) (s x : Operand)
    (ho : o.op = .call { callee := .builtin .append, args := #[s, x], argTypes := #[49, 9] })
    (B : Nat) (w : World) (v : Value) (l : List UInt8) (m : ByteArray) (hs : a.eval s = v) (hown : OwnB B w v l) (hx : a.eval x = .string m)
    (hl : l.length + m.size ≤ 8589934592) (hB : B ≤ w.heap.size)
    (h : ∀ v' w', OwnB B w' v' (l ++ m.data.toList) → Below B w w' → wpList Tryz.prog ops Q rest (a.put o.dst v') w') : wpList Tryz.prog ops Q (o :: rest) a w := by
  obtain ⟨i0, hi0, hz0, hz1, hz2⟩ := info_parts info_u8
  refine wpList_append_own_string (w := w) hgd s x 49 9 ho B 5 i0 Tryz.underlying49 Tryz.underlying9 hi0 hz0 hz1 hz2 v l.length (byteCells l) hs hown m hx (by unfold maxLen; omega) (by omega) hB ?_
  intro v' w' h2 h3 _
  refine h v' w' ?_ ((Below.refl B w).grown h3 hB (fun k hk => OwnB.lt hown k hk))
  unfold OwnB
  rw [List.length_append, byteCells_append]
  exact h2
/-- The same at a step of a region that draws its order. -/
theorem step_bytes {ops : Array Oper} {o : Oper} {a : Act} {K : Act → World → Prop} {Q : Exit → Act → World → Prop} {E : Prop} (hgd : o.guard = none) (s x : Operand)
    (ho : o.op = .call { callee := .builtin .append, args := #[s, x], argTypes := #[49, 49] })
    (B : Nat) (w : World) (v : Value) (l m : List UInt8) (hs : a.eval s = v) (hown : OwnB B w v l) (cs : Array Value) (hx : a.eval x = .slice (some ⟨w.heap.size, 0, none⟩) m.length m.length)
    (hcs : cs.toList = byteCells m) (hl : l.length + m.length ≤ 8589934592) (hm : 0 < m.length) (hB : B ≤ w.heap.size)
    (h : ∀ v' w', OwnB B w' v' (l ++ m) → Below B w w' → K (a.put o.dst v') w') :
    if Region.wanted o (yielded ops a.tmps) = true then Oper.wp Tryz.prog o a (w.alloc (.cells cs 5)) K Q else E := by
  obtain ⟨i0, hi0, hz0, hz1, hz2⟩ := info_parts info_u8
  refine step_append_lies _ hgd s x 49 ho B 5 i0 _ 1 1 Tryz.underlying49 hi0 hz0 hz1 hz2 rfl (by decide) v l.length (byteCells l) hs (hown.alloc _) ⟨w.heap.size, 0, none⟩ m.length m.length (byteCells m) hx (by rw [byteCells_length, Nat.mul_one]) (bytes_at w m cs _ hcs) (byteCells_one m) hm (by unfold maxLen; omega) (by omega) (by simp; omega) _ rfl ?_
  intro g cap w' h2 h3 _ _
  refine h _ w' ?_ (((Below.refl B w).alloc hB _).grown h3 (by simp; omega) (fun k hk => OwnB.lt hown k hk))
  unfold OwnB
  rw [List.length_append, byteCells_append]
  exact h2
/-- 'string(out)'. -/
theorem run_text {B : Nat} {w : World} {v : Value} {l : List UInt8} (h : OwnB B w v l) : (convert 49 9 v).run Tryz.prog w = .ok (.string (bs l)) w := by
  rcases h.2 with ⟨rfl, hx⟩ | ⟨g, cap, cur, rfl, hb, hh, hn, hm, hsz, ht⟩
  · have hl : l = [] := List.eq_nil_of_length_eq_zero hx
    subst hl
    rw [run_convert_bytes_string w _ _ 5 none 0 0 Tryz.underlying49 Tryz.underlying5 Tryz.underlying9]
    simp [Conv.bytesToString]; rfl
  · refine run_convert_bytes_back w _ _ 5 ⟨g, 0, none⟩ cap l Tryz.underlying49 Tryz.underlying5 Tryz.underlying9 (fun j hj => ?_)
    have := World.ownsRow.cells h (g := g) rfl j (.int .u8 (l[j].toNat : Int)) (by unfold byteCells; rw [List.getElem?_map, List.getElem?_eq_getElem hj]; rfl)
    exact this
end Go.Proofs.YtfklmopnifkieaaGreatDoor
