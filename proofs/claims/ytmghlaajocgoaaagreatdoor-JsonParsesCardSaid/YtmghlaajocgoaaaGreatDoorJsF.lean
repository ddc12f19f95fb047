import Derived.Test.YtmghlaajocgoaaaGreatDoorJsE
import Derived.Deep.RegionLaw
/-! A kid more in memory; value's closure. -/
namespace Go.Proofs.YtmghlaajocgoaaaGreatDoor
set_option linter.unusedSimpArgs false
set_option linter.unusedVariables false
open Go.RowKit Go.Maps Go.WideMaps
open Go.Lib hiding intOf

theorem Tryz.infoInt : (Tryz.prog.info? 3).map (fun i => (i.zero, i.size, i.bytes)) = some (some (.int .i64 0), 1, 8) := by kernel_rfl
theorem Tryz.infoSpan : (Tryz.prog.info? 33).map (fun i => (i.zero, i.size, i.bytes)) = some (some (.agg #[.int .i64 0, .int .i64 0]), 2, 16) := by kernel_rfl
theorem Tryz.infoNode : (Tryz.prog.info? 37).map (fun i => (i.zero, i.size, i.bytes)) = some (some (.agg #[.int .i64 0, .int .i64 0, .int .i64 0, .int .i64 0, .int .i64 0, .slice none 0 0, .slice none 0 0]), 7, 88) := by kernel_rfl
theorem own_obj {w : World} {B : Nat} {e : TypeId} {s : Nat} {v : Value} {n : Nat} {xs : List Value} (h : w.ownsRow B e s v n xs) : ∀ k, v.ownBlock = some k → ∃ cur, w.heap[k]? = some (.cells cur e (0, 0)) := by
  intro k hk
  rcases h.2 with ⟨rfl, _⟩ | ⟨g, cap, cur, rfl, _, hg, _⟩
  · cases hk
  · have : g = k := Option.some.inj hk
    subst this
    exact ⟨cur, hg⟩
/-- The parser's block and its tokens, where a block of nodes, numbers or spans turns. -/
theorem rest_kept {w w' : World} {P : Nat} {txt : List UInt8} {rv nv : Value} {l : Sp} {a : Nat} {er : Int} {rest : List Tok} {r : Option Nat} (hb : JBox w P txt rv l nv a er) (ht : TV w rv rest) (hg : w.grownBy w' r)
    (hr : ∀ k, r = some k → ∃ cs t, w.heap[k]? = some (.cells cs t (0, 0)) ∧ t ≠ 56 ∧ t ≠ 51) : JBox w' P txt rv l nv a er ∧ TV w' rv rest := by
  refine ⟨?_, ht.same (fun g cur hk => hg.block g (cell_it hk) (fun e => ?_))⟩
  · refine (hg.block P hb.lt (fun e => ?_)).trans hb
    obtain ⟨cs, t, h1, h2, _⟩ := hr P e.symm
    have h0 := hb
    unfold JBox at h0
    rw [h1] at h0
    injection h0 with h0
    injection h0 with _ h0
    exact h2 h0
  · obtain ⟨cs, t, h1, _, h2⟩ := hr g e.symm
    rw [h1] at hk
    injection hk with hk
    injection hk with _ hk
    exact h2 hk
theorem one_news (w : World) (cs : Array Value) (t : TypeId) : ∀ j u, cs.toList[j]? = some u → (w.alloc (.cells cs t)).cell? ((⟨w.heap.size, 0, none⟩ : Addr).add j) = some u :=
  fun j u hj => World.news_of_block (w := w.alloc (.cells cs t)) (heap_alloc_new w _) j u hj
theorem grown_of_alloc {w w' : World} {o : Obj} {r : Option Nat} (h : (w.alloc o).grownBy w' r) : w.grownBy w' r := (World.grownBy_alloc w o r).trans h
/-- 'append(node.Kids, k)'. -/
theorem wpList_kid {ops : Array Oper} {rest : List Oper} {o : Oper} {a : Act} {Q : Exit → Act → World → Prop} (hgd : o.guard = none) (s x : Operand)
    (ho : o.op = .call { callee := .builtin .append, args := #[s, x], argTypes := #[34, 34] })
    (B : Nat) (w : World) (v : Value) (l : List Nat) (k : Nat) (hs : a.eval s = v) (hown : w.ownsRow B 3 1 v l.length (intCells l)) (hx : a.eval x = .slice (some ⟨w.heap.size, 0, none⟩) 1 1) (hl : l.length ≤ 4294967295) (hB : B ≤ w.heap.size)
    (hK : ∀ kv w', w'.ownsRow B 3 1 kv (l.length + 1) (intCells l ++ [.int .i64 (k : Int)]) → w.grownBy w' v.ownBlock → (kv.ownBlock = v.ownBlock ∨ kv.ownBlock = some (w.heap.size + 1)) → wpList Tryz.prog ops Q rest (a.put o.dst kv) w') :
    wpList Tryz.prog ops Q (o :: rest) a (w.alloc (.cells #[.int .i64 (k : Int)] 3)) := by
  obtain ⟨i0, hi0, hz0, hz1, hz2⟩ := info_parts Tryz.infoInt
  refine wpList_append_lies _ hgd s x 34 ho B 3 i0 _ 1 8 Tryz.underlying34 hi0 hz0 hz1 hz2 rfl (by decide) v _ (intCells l) hs (World.ownsRow.alloc hown _) ⟨w.heap.size, 0, none⟩ 1 1 [.int .i64 (k : Int)] hx (by rfl) (one_news w #[.int .i64 (k : Int)] _)
    (fun u hu => by rw [List.mem_singleton.1 hu]; rfl) (by decide) (by unfold maxLen; omega) (by omega) (by simp; omega) _ rfl ?_
  intro g cap w' h5 h6 h7 _
  refine hK _ w' h5 (grown_of_alloc h6) ?_
  rcases h7 with h7 | h7
  · exact .inl h7.symm
  · exact .inr (by rw [h7]; simp [Value.ownBlock])
/-- 'append(node.Pieces, x)' at a step of a region that draws its order. -/
theorem step_pc {ops : Array Oper} {o : Oper} {a : Act} {K : Act → World → Prop} {Q : Exit → Act → World → Prop} {E : Prop} (hgd : o.guard = none) (s x : Operand)
    (ho : o.op = .call { callee := .builtin .append, args := #[s, x], argTypes := #[35, 35] })
    (B : Nat) (w : World) (v : Value) (l : List Sp) (k : Sp) (hs : a.eval s = v) (hown : w.ownsRow B 33 2 v l.length (spCells l)) (hx : a.eval x = .slice (some ⟨w.heap.size, 0, none⟩) 1 1) (hl : l.length ≤ 4294967295) (hB : B ≤ w.heap.size)
    (hK : ∀ kv w', w'.ownsRow B 33 2 kv (l.length + 1) (spCells l ++ [.int .i64 (k.1 : Int), .int .i64 (k.2 : Int)]) → w.grownBy w' v.ownBlock → (kv.ownBlock = v.ownBlock ∨ kv.ownBlock = some (w.heap.size + 1)) → K (a.put o.dst kv) w') :
    if Region.wanted o (yielded ops a.tmps) = true then Oper.wp Tryz.prog o a (w.alloc (.cells #[.int .i64 (k.1 : Int), .int .i64 (k.2 : Int)] 33)) K Q else E := by
  obtain ⟨i0, hi0, hz0, hz1, hz2⟩ := info_parts Tryz.infoSpan
  refine step_append_lies _ hgd s x 35 ho B 33 i0 _ 2 16 Tryz.underlying35 hi0 hz0 hz1 hz2 rfl (by decide) v _ (spCells l) hs (World.ownsRow.alloc hown _) ⟨w.heap.size, 0, none⟩ 1 1 [.int .i64 (k.1 : Int), .int .i64 (k.2 : Int)] hx (by rfl) (one_news w #[.int .i64 (k.1 : Int), .int .i64 (k.2 : Int)] _)
    (fun u hu => by
      rcases List.mem_cons.1 hu with rfl | hu
      · rfl
      · rw [List.mem_singleton.1 hu]; rfl) (by decide) (by unfold maxLen; omega) (by omega) (by simp; omega) _ rfl ?_
  intro g cap w' h5 h6 h7 _
  refine hK _ w' h5 (grown_of_alloc h6) ?_
  rcases h7 with h7 | h7
  · exact .inl h7.symm
  · exact .inr (by rw [h7]; simp [Value.ownBlock])
/-- 'append(p.nodes, x)' at a step of a region that draws its order. -/
theorem step_node {ops : Array Oper} {o : Oper} {a : Act} {K : Act → World → Prop} {Q : Exit → Act → World → Prop} {E : Prop} (hgd : o.guard = none) (s x : Operand)
    (ho : o.op = .call { callee := .builtin .append, args := #[s, x], argTypes := #[23, 23] })
    (B : Nat) (w : World) (v : Value) (z : List ND) (y : NodeD) (cs : Array Value) (hcs : cs.toList = ndCells (y, .slice none 0 0, .slice none 0 0)) (hs : a.eval s = v) (hown : w.ownsRow B 37 7 v z.length (nodeCells z)) (hx : a.eval x = .slice (some ⟨w.heap.size, 0, none⟩) 1 1) (hl : z.length ≤ 4294967295) (hB : B ≤ w.heap.size)
    (hK : ∀ nv w', w'.ownsRow B 37 7 nv (z.length + 1) (nodeCells z ++ ndCells (y, .slice none 0 0, .slice none 0 0)) → w.grownBy w' v.ownBlock → K (a.put o.dst nv) w') :
    if Region.wanted o (yielded ops a.tmps) = true then Oper.wp Tryz.prog o a (w.alloc (.cells cs 37)) K Q else E := by
  obtain ⟨i0, hi0, hz0, hz1, hz2⟩ := info_parts Tryz.infoNode
  refine step_append_lies _ hgd s x 23 ho B 37 i0 _ 7 88 Tryz.underlying23 hi0 hz0 hz1 hz2 rfl (by decide) v _ (nodeCells z) hs (World.ownsRow.alloc hown _) ⟨w.heap.size, 0, none⟩ 1 1 _ hx (by rw [hcs]; rfl) (one_news w cs _)
    (fun u hu => by
      rw [hcs] at hu
      simp only [ndCells, List.mem_cons, List.not_mem_nil, or_false] at hu
      rcases hu with rfl | rfl | rfl | rfl | rfl | rfl | rfl <;> rfl) (by decide) (by unfold maxLen; omega) (by omega) (by simp; omega) _ rfl ?_
  intro g cap w' h5 h6 h7 _
  rw [hcs] at h5
  exact hK _ w' h5 (grown_of_alloc h6)
theorem NodesAt.cellK {B : Nat} {z : List ND} {g cap : Nat} {w w1 : World} (h : NodesAt B z (.slice (some ⟨g, 0, none⟩) z.length cap) w) {n : Nat} {y : ND} (hy : z[n]? = some y) (hg : w.grownBy w1 y.2.1.ownBlock) : w1.cell? ⟨g, n * 7 + 5, none⟩ = some y.2.1 ∧ w1.frozen? ⟨g, n * 7 + 5, none⟩ = false := by
  have hn := (List.getElem?_eq_some_iff.1 hy).1
  have hrow1 := h.row.kept hg (own_ne h.row (h.kids y (List.mem_of_getElem? hy)) (by decide))
  refine ⟨?_, World.ownsRow.frozenAt hrow1 _⟩
  rw [World.ownsRow.cellAt hrow1 _ (by omega), nodeCells_at z n y hy 5 (by omega)]
  rfl
theorem NodesAt.cellP {B : Nat} {z : List ND} {g cap : Nat} {w w1 : World} (h : NodesAt B z (.slice (some ⟨g, 0, none⟩) z.length cap) w) {n : Nat} {y : ND} (hy : z[n]? = some y) (hg : w.grownBy w1 y.2.2.ownBlock) : w1.cell? ⟨g, n * 7 + 6, none⟩ = some y.2.2 ∧ w1.frozen? ⟨g, n * 7 + 6, none⟩ = false := by
  have hn := (List.getElem?_eq_some_iff.1 hy).1
  have hrow1 := h.row.kept hg (own_ne h.row (h.pcs y (List.mem_of_getElem? hy)) (by decide))
  refine ⟨?_, World.ownsRow.frozenAt hrow1 _⟩
  rw [World.ownsRow.cellAt hrow1 _ (by omega), nodeCells_at z n y hy 6 (by omega)]
  rfl
/-- value's closure: a member. -/
theorem closure_any (w0 : World) (P : Nat) (txt : List UInt8) (lv : Nat) (IH : VC w0 P txt lv) (b : Nat) (had : List (List UInt8)) (w : World) (rest : List Tok) (l : Sp) (nodes : List NodeD) (lev : Int) (X Y : Nat)
    (hX : w.cell? ⟨X, 0, none⟩ = some (.pointer (some ⟨P, 0, none⟩))) (hY : w.cell? ⟨Y, 0, none⟩ = some (.map (some b)))
    (h : J w0.heap.size P txt rest l nodes w) (hb : Below w0.heap.size w0 w) (ht : TB txt rest) (hN : nodes.length + rest.length ≤ 131074) (hl : lev = 33 - (lv : Int)) (hm : HM b had w) (hBb : w0.heap.size ≤ b) (hhad : had.length ≤ 65537) (hs : txt.length ≤ 65536) (hSV : SVar w0) (hT : Tabs w0) :
    Calls Tryz.prog 36 #[.int .i64 lev, .pointer (some ⟨X, 0, none⟩), .pointer (some ⟨Y, 0, none⟩)] w (ME w0.heap.size P b txt (kidM txt (valueM txt lv) true had rest l nodes) w) := by
  have C := Lib.hid (member_any w0 P txt lv IH b had w rest l nodes lev h hb ht hN hl hm hBb hhad hs hSV hT)
  obtain ⟨R, hR⟩ : ∃ R, kidM txt (valueM txt lv) true had rest l nodes = R := ⟨_, rfl⟩
  rw [hR] at C ⊢
  clear hR h hb ht hl IH hm
  obtain ⟨Q, had2⟩ := R
  cases Q with
  | ok rr l2 ns =>
    go_enter Tryz.func36, Tryz.ntmps36
    go_wp2_with fail
    refine C.out.mono ?_
    rintro e w1 ⟨rfl, hj, hmm, hf⟩
    go_wp2_with fail
    go_ret
    exact ⟨rfl, hj, hmm, hf⟩
  | bad a er =>
    go_enter Tryz.func36, Tryz.ntmps36
    go_wp2_with fail
    refine C.out.mono ?_
    rintro e w1 ⟨rfl, hj, hf⟩
    go_wp2_with fail
    go_ret
    exact ⟨rfl, hj, hf⟩
end Go.Proofs.YtmghlaajocgoaaaGreatDoor
