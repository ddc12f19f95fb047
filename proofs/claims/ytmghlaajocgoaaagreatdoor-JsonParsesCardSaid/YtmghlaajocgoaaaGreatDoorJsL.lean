import Derived.Test.YtmghlaajocgoaaaGreatDoorJsK
import Derived.Test.YtmghlaajocgoaaaGreatDoorLexE
/-! Tokens as they lie; json.Parse. -/
namespace Go.Proofs.YtmghlaajocgoaaaGreatDoor
set_option linter.unusedSimpArgs false
set_option linter.unusedVariables false
open Go.RowKit Go.Maps Go.WideMaps
open Go.Lib hiding intOf

theorem tokCells_at : ∀ (ts : List Tok) (j : Nat) (t : Tok), ts[j]? = some t → (tokCells ts)[j * 3]? = some (.int .i64 t.kind) ∧ (tokCells ts)[j * 3 + 1]? = some (.int .i64 t.sf) ∧ (tokCells ts)[j * 3 + 2]? = some (.int .i64 t.st)
  | [], j, t, h => by simp at h
  | u :: ts, 0, t, h => by
    obtain rfl : u = t := by simpa using h
    exact ⟨rfl, rfl, rfl⟩
  | u :: ts, j + 1, t, h => by
    rw [List.getElem?_cons_succ] at h
    have := tokCells_at ts j t h
    rw [show (j + 1) * 3 = j * 3 + 3 by omega]
    exact this
theorem tokCells_snoc (ts : List Tok) (t : Tok) : tokCells (ts ++ [t]) = tokCells ts ++ [.int .i64 t.kind, .int .i64 t.sf, .int .i64 t.st] := by unfold tokCells; simp
theorem tokCells_len (ts : List Tok) : (tokCells ts).length = ts.length * 3 := by
  induction ts with
  | nil => rfl
  | cons t ts ih => show (_ :: _ :: _ :: tokCells ts).length = _; simp only [List.length_cons, ih]; omega
theorem OwnsToks.toTV {B : Nat} {w : World} {v : Value} {ts : List Tok} (h : OwnsToks B w v ts) : TV w v ts := by
  rcases h.2 with ⟨h0, h1⟩ | ⟨g, cap, cur, h1, hb, h3, h4, _⟩
  · exact ⟨none, 0, by rw [h0, h1], by omega, .inl (List.length_eq_zero_iff.1 h1)⟩
  · refine ⟨some ⟨g, 0, none⟩, cap, h1, h4, .inr ⟨g, 0, cur, rfl, h3, fun j t hj => ?_⟩⟩
    obtain ⟨a, b, c⟩ := tokCells_at ts j t hj
    have hc := h.cells (g := g) (by rw [h1]; rfl)
    have ha : ∀ n, ((⟨g, 0, none⟩ : Addr).add n) = ⟨g, n, none⟩ := fun n => by unfold Addr.add; split <;> simp_all
    simp only [Nat.zero_add]
    exact ⟨by rw [← ha]; exact hc _ _ a, by rw [← ha]; exact hc _ _ b, by rw [← ha]; exact hc _ _ c⟩
theorem toks_bounds : ∀ (f : Nat) (l : List UInt8) (i : Nat), ∀ t ∈ (toksGo f l i).1, t.sf ≤ t.st ∧ t.st ≤ i + l.length
  | f, [], i, t, ht => by rw [toksGo_nil] at ht; cases ht
  | 0, c :: r, i, t, ht => by cases ht
  | f + 1, c :: r, i, t, ht => by
    rw [toksGo_cons] at ht
    split at ht
    · have h1 := (tokR_ok (c :: r) (by simp)).1
      rcases List.mem_cons.1 ht with rfl | ht
      · simp only []; omega
      · have := toks_bounds f _ _ t ht
        rw [List.length_drop] at this
        omega
    · cases ht
theorem toks_len : ∀ (f : Nat) (l : List UInt8) (i : Nat), (toksGo f l i).1.length ≤ f
  | 0, l, i => by simp [toksGo]
  | f + 1, [], i => by rw [toksGo_nil]; simp
  | f + 1, c :: r, i => by
    rw [toksGo_cons]
    split
    · simp only [List.length_cons]; have := toks_len f ((c :: r).drop (tokR (c :: r)).2.1) (i + (tokR (c :: r)).2.1); omega
    · simp
theorem toksL_tb (l : List UInt8) : (toksL l).1.length ≤ 65536 ∧ (∀ t ∈ (toksL l).1, t.sf ≤ t.st ∧ t.st ≤ l.length) ∧ ((toksL l).2.2 = 0 → l.length ≤ 65536) := by
  unfold toksL
  split
  · exact ⟨by simp, fun t h => (by cases h), fun h => (by cases h)⟩
  · split
    · exact ⟨Nat.le_trans (toks_len _ _ _) (by omega), fun t h => by have := toks_bounds _ _ _ t h; omega, fun _ => by omega⟩
    · rename_i p e ho
      refine ⟨by simp, fun t h => (by cases h), fun h => ?_⟩
      have := toks_err l.length l 0 p e (Nat.le_refl _) ho
      exact absurd h this.2.2
/-- A document in memory. -/
def DocV (B : Nat) (w : World) (txt : List UInt8) (nodes : List NodeD) (v : Value) : Prop := ∃ z nv, v = .agg #[.string (bs txt), nv] ∧ z.map (·.1) = nodes ∧ NodesAt B z nv w
/-- What the document's text is: none where it has no nodes. -/
def docT (l : List UInt8) : List NodeD → List UInt8
  | [] => []
  | _ :: _ => l
def ParseE (l : List UInt8) (r : List NodeD × Int × Int) (w : World) (e : Ending) (w' : World) : Prop :=
  ∃ v, e = .returned (.tuple #[v, .int .i64 r.2.1, .int .i64 r.2.2]) ∧ DocV w.heap.size w' (docT l r.1) r.1 v ∧ Below w.heap.size w w'
/-- 'append(p.rest, t)' at a step of a region that draws its order. -/
theorem step_tok {ops : Array Oper} {o : Oper} {a : Act} {K : Act → World → Prop} {Q : Exit → Act → World → Prop} {E : Prop} (hgd : o.guard = none) (s x : Operand)
    (ho : o.op = .call { callee := .builtin .append, args := #[s, x], argTypes := #[44, 44] })
    (B : Nat) (w : World) (v : Value) (ts : List Tok) (t : Tok) (hs : a.eval s = v) (hown : OwnsToks B w v ts) (hx : a.eval x = .slice (some ⟨w.heap.size, 0, none⟩) 1 1) (hl : ts.length ≤ 4294967295) (hB : B ≤ w.heap.size)
    (hK : ∀ kv w', OwnsToks B w' kv (ts ++ [t]) → w.grownBy w' v.ownBlock → K (a.put o.dst kv) w') :
    if Region.wanted o (yielded ops a.tmps) = true then Oper.wp Tryz.prog o a (w.alloc (.cells #[.int .i64 (t.kind : Int), .int .i64 (t.sf : Int), .int .i64 (t.st : Int)] 51)) K Q else E := by
  obtain ⟨i0, hi0, hz0, hz1, hz2⟩ := info_parts Tryz.infoTok
  refine step_append_lies _ hgd s x 44 ho B 51 i0 _ 3 24 Tryz.underlying44 hi0 hz0 hz1 hz2 rfl (by decide) v _ (tokCells ts) hs (World.ownsRow.alloc hown _) ⟨w.heap.size, 0, none⟩ 1 1 [.int .i64 (t.kind : Int), .int .i64 (t.sf : Int), .int .i64 (t.st : Int)] hx (by rfl) (one_news w #[.int .i64 (t.kind : Int), .int .i64 (t.sf : Int), .int .i64 (t.st : Int)] _)
    (fun u hu => by
      rcases List.mem_cons.1 hu with rfl | hu
      · rfl
      · rcases List.mem_cons.1 hu with rfl | hu
        · rfl
        · rw [List.mem_singleton.1 hu]; rfl) (by decide) (by unfold maxLen; omega) (by omega) (by simp; omega) _ rfl ?_
  intro g cap w' h5 h6 h7 _
  refine hK _ w' ?_ (grown_of_alloc h6)
  unfold OwnsToks
  rw [tokCells_snoc, List.length_append, List.length_singleton]
  exact h5
end Go.Proofs.YtmghlaajocgoaaaGreatDoor
