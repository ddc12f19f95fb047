import Derived.Test.YtnnlpkbopeiefaaGreatDoorJsA
import Derived.Test.YtnnlpkbopeiefaaGreatDoorSm
import Derived.Deep.AppendLies
/-! The parser in memory: its tokens, its nodes and their kids and pieces. -/
namespace Go.Proofs.YtnnlpkbopeiefaaGreatDoor
set_option linter.unusedSimpArgs false
set_option linter.unusedVariables false
open Go.RowKit
open Go.Lib hiding intOf
theorem grown_bel {A B : World} (h : Below A.heap.size A B) : A.grownBy B none := ⟨h.os, h.tape, h.output, h.size, fun i hi _ => h.block i hi⟩
theorem owns_below {B size : Nat} {e : TypeId} {A W : World} {v : Value} {n : Nat} {xs : List Value} (h : A.ownsRow B e size v n xs) (hb : Below A.heap.size A W) : W.ownsRow B e size v n xs :=
  h.kept (grown_bel hb) (by cases h : v.ownBlock with
    | none => exact .inl rfl
    | some k => exact .inr (by simp))
theorem own_ne {w : World} {B1 B2 : Nat} {e1 e2 : TypeId} {s1 s2 : Nat} {v1 v2 : Value} {n1 n2 : Nat} {x1 x2 : List Value} (h1 : w.ownsRow B1 e1 s1 v1 n1 x1) (h2 : w.ownsRow B2 e2 s2 v2 n2 x2) (he : e1 ≠ e2) : v1.ownBlock = none ∨ v1.ownBlock ≠ v2.ownBlock := by
  rcases h1.2 with ⟨rfl, _⟩ | ⟨g, cap, cur, rfl, _, hg, _⟩
  · exact .inl rfl
  · right
    rcases h2.2 with ⟨rfl, _⟩ | ⟨g2, cap2, cur2, rfl, _, hg2, _⟩
    · intro h; cases h
    · intro h
      have hgg : g = g2 := Option.some.inj h
      subst hgg
      rw [hg] at hg2
      injection hg2 with hg2
      injection hg2 with _ hg2
      exact he hg2
/-- A row does not lie in a block of another type. -/
theorem own_off {w : World} {B : Nat} {e t : TypeId} {s : Nat} {v : Value} {n : Nat} {xs : List Value} {X : Nat} {cs : Array Value} {fz : Nat × Nat} (h : w.ownsRow B e s v n xs) (hX : w.heap[X]? = some (.cells cs t fz)) (he : e ≠ t) : v.ownBlock = none ∨ v.ownBlock ≠ some X := by
  rcases h.2 with ⟨rfl, _⟩ | ⟨g, cap, cur, rfl, _, hg, _⟩
  · exact .inl rfl
  · refine .inr fun hh => ?_
    have hgg : g = X := Option.some.inj hh
    subst hgg
    rw [hg] at hX
    injection hX with hX
    injection hX with _ hX
    exact he hX
/-- The parser's block. -/
def JBox (w : World) (P : Nat) (txt : List UInt8) (rv : Value) (l : Sp) (nv : Value) (a : Nat) (er : Int) : Prop :=
  w.heap[P]? = some (.cells #[.string (bs txt), rv, .int .i64 l.1, .int .i64 l.2, nv, .int .i64 a, .int .i64 er] 178 (0, 0))
abbrev JCells (w : World) (P : Nat) (txt : List UInt8) (rv : Value) (l : Sp) (nv : Value) (a : Nat) (er : Int) : Prop :=
  w.cell? ⟨P, 0, none⟩ = some (.string (bs txt)) ∧ w.cell? ⟨P, 1, none⟩ = some rv ∧ w.cell? ⟨P, 2, none⟩ = some (.int .i64 l.1) ∧ w.cell? ⟨P, 3, none⟩ = some (.int .i64 l.2) ∧ w.cell? ⟨P, 4, none⟩ = some nv ∧
  w.cell? ⟨P, 5, none⟩ = some (.int .i64 a) ∧ w.cell? ⟨P, 6, none⟩ = some (.int .i64 er) ∧
  w.frozen? ⟨P, 1, none⟩ = false ∧ w.frozen? ⟨P, 2, none⟩ = false ∧ w.frozen? ⟨P, 3, none⟩ = false ∧ w.frozen? ⟨P, 4, none⟩ = false ∧ w.frozen? ⟨P, 5, none⟩ = false ∧ w.frozen? ⟨P, 6, none⟩ = false
section
variable {w w' : World} {P : Nat} {txt : List UInt8} {rv nv : Value} {l : Sp} {a : Nat} {er : Int}
theorem JBox.cells (h : JBox w P txt rv l nv a er) : JCells w P txt rv l nv a er := by
  unfold JBox at h
  refine ⟨?_, ?_, ?_, ?_, ?_, ?_, ?_, ?_, ?_, ?_, ?_, ?_, ?_⟩ <;> simp [World.cell?, World.frozen?, h]
theorem JBox.lt (h : JBox w P txt rv l nv a er) : P < w.heap.size := cell_it h
theorem JBox.keep (h : JBox w P txt rv l nv a er) (hb : Below w.heap.size w w') : JBox w' P txt rv l nv a er := (hb.block P h.lt).trans h
end
/-- Tokens in memory. -/
def TV (w : World) (v : Value) (ts : List Tok) : Prop := ∃ p c, v = .slice p ts.length c ∧ ts.length ≤ c ∧ (ts = [] ∨ ∃ g o cur, p = some ⟨g, o, none⟩ ∧ w.heap[g]? = some (.cells cur 180 (0, 0)) ∧
  ∀ (j : Nat) (t : Tok), ts[j]? = some t → w.cell? ⟨g, o + j * 3, none⟩ = some (.int .i64 t.kind) ∧ w.cell? ⟨g, o + j * 3 + 1, none⟩ = some (.int .i64 t.sf) ∧ w.cell? ⟨g, o + j * 3 + 2, none⟩ = some (.int .i64 t.st))
theorem cell_same {w w' : World} {g : Nat} (h : w'.heap[g]? = w.heap[g]?) (o : Nat) : w'.cell? ⟨g, o, none⟩ = w.cell? ⟨g, o, none⟩ := by
  unfold World.cell?
  simp only [h]
theorem TV.same {w w' : World} {v : Value} {ts : List Tok} (h : TV w v ts) (hs : ∀ (g : Nat) (cur : Array Value), w.heap[g]? = some (.cells cur 180 (0, 0)) → w'.heap[g]? = w.heap[g]?) : TV w' v ts := by
  obtain ⟨p, c, h1, h2, h3⟩ := h
  refine ⟨p, c, h1, h2, ?_⟩
  rcases h3 with h3 | ⟨g, o, cur, h3, h4, h5⟩
  · exact .inl h3
  · have e := hs g cur h4
    refine .inr ⟨g, o, cur, h3, e.trans h4, fun j t ht => ?_⟩
    rw [cell_same e, cell_same e, cell_same e]
    exact h5 j t ht
theorem TV.keep {w w' : World} {v : Value} {ts : List Tok} (h : TV w v ts) (hb : Below w.heap.size w w') : TV w' v ts := h.same (fun g cur hg => hb.block g (cell_it hg))
theorem TV.head {w : World} {v : Value} {t : Tok} {r : List Tok} (h : TV w v (t :: r)) : ∃ g o c, v = .slice (some ⟨g, o, none⟩) (r.length + 1) c ∧ r.length + 1 ≤ c ∧ w.cell? ⟨g, o, none⟩ = some (.int .i64 t.kind) ∧ w.cell? ⟨g, o + 1, none⟩ = some (.int .i64 t.sf) ∧ w.cell? ⟨g, o + 2, none⟩ = some (.int .i64 t.st) ∧
    TV w (.slice (if c = 1 then some ⟨g, o, none⟩ else some ⟨g, o + 3, none⟩) r.length (c - 1)) r := by
  obtain ⟨p, c, h1, h2, h3⟩ := h
  rcases h3 with h3 | ⟨g, o, cur, rfl, h4, h5⟩
  · cases h3
  · simp only [List.length_cons] at h1 h2
    have h0 := h5 0 t rfl
    rw [Nat.zero_mul, Nat.add_zero] at h0
    refine ⟨g, o, c, h1, h2, h0.1, h0.2.1, h0.2.2, _, _, rfl, by omega, ?_⟩
    cases r with
    | nil => exact .inl rfl
    | cons u r =>
      refine .inr ⟨g, o + 3, cur, if_neg (by simp only [List.length_cons] at h2; omega), h4, fun j t ht => ?_⟩
      have := h5 (j + 1) t (by simpa using ht)
      rw [show o + (j + 1) * 3 = o + 3 + j * 3 by omega] at this
      exact this
theorem TV.empty {w : World} {v : Value} (h : TV w v []) : ∃ p c, v = .slice p 0 c := by
  obtain ⟨p, c, h1, _⟩ := h
  exact ⟨p, c, h1⟩
/-- A node, and where its kids and pieces lie. -/
abbrev ND := NodeD × Value × Value
def intCells (l : List Nat) : List Value := l.map fun (k : Nat) => Value.int .i64 (k : Int)
def spCells (l : List Sp) : List Value := l.flatMap fun s => [.int .i64 (s.1 : Int), .int .i64 (s.2 : Int)]
def ndCells (y : ND) : List Value := [.int .i64 (y.1.kind : Int), .int .i64 (y.1.sf : Int), .int .i64 (y.1.st : Int), .int .i64 (y.1.key.1 : Int), .int .i64 (y.1.key.2 : Int), y.2.1, y.2.2]
def nodeCells (z : List ND) : List Value := z.flatMap ndCells
theorem nodeCells_cons (y : ND) (z : List ND) : nodeCells (y :: z) = ndCells y ++ nodeCells z := rfl
theorem nodeCells_at : ∀ (z : List ND) (j : Nat) (y : ND), z[j]? = some y → ∀ i, i < 7 → (nodeCells z)[j * 7 + i]? = (ndCells y)[i]?
  | [], j, y, h, i, hi => by simp at h
  | x :: z, 0, y, h, i, hi => by
    obtain rfl : x = y := by simpa using h
    rw [nodeCells_cons, Nat.zero_mul, Nat.zero_add, List.getElem?_append_left (by simpa [ndCells] using hi)]
  | x :: z, j + 1, y, h, i, hi => by
    rw [List.getElem?_cons_succ] at h
    have := nodeCells_at z j y h i hi
    rw [nodeCells_cons, List.getElem?_append_right (by simp [ndCells]; omega), ← this]
    congr 1
    simp [ndCells]
    omega
/-- One field of one node is another. -/
theorem nodeCells_set : ∀ (z : List ND) (j : Nat) (y y' : ND), z[j]? = some y → ∀ i u, i < 7 → (ndCells y).set i u = ndCells y' → (nodeCells z).set (j * 7 + i) u = nodeCells (z.set j y')
  | [], j, y, y', h, i, u, hi, hu => by simp at h
  | x :: z, 0, y, y', h, i, u, hi, hu => by
    obtain rfl : x = y := by simpa using h
    rw [nodeCells_cons, Nat.zero_mul, Nat.zero_add, List.set_append_left _ _ (by simpa [ndCells] using hi), hu]
    rfl
  | x :: z, j + 1, y, y', h, i, u, hi, hu => by
    rw [List.getElem?_cons_succ] at h
    have := nodeCells_set z j y y' h i u hi hu
    rw [nodeCells_cons, List.set_append_right _ _ (by simp [ndCells]; omega), List.set_cons_succ, nodeCells_cons, ← this]
    congr 2
    simp [ndCells]
    omega
/-- No two rows in one block. -/
def Apart (f : ND → Value) (z : List ND) : Prop := ∀ (i j : Nat) (yi yj : ND), i ≠ j → z[i]? = some yi → z[j]? = some yj → (f yi).ownBlock = none ∨ (f yi).ownBlock ≠ (f yj).ownBlock
theorem Apart.push {f : ND → Value} {z : List ND} {y : ND} (h : Apart f z) (hy : (f y).ownBlock = none) : Apart f (z ++ [y]) := by
  have key : ∀ (j : Nat) (yj : ND), (z ++ [y])[j]? = some yj → z[j]? = some yj ∨ (j = z.length ∧ yj = y) := by
    intro j yj hj
    by_cases h2 : j < z.length
    · rw [List.getElem?_append_left h2] at hj; exact .inl hj
    · have hl := (List.getElem?_eq_some_iff.1 hj).1
      rw [List.length_append, List.length_singleton] at hl
      rw [List.getElem?_append_right (by omega), show j - z.length = 0 by omega] at hj
      simp only [List.getElem?_cons_zero, Option.some.injEq] at hj
      exact .inr ⟨by omega, hj.symm⟩
  intro i j yi yj hij hi hj
  rcases key i yi hi with hi | ⟨hi, rfl⟩
  · rcases key j yj hj with hj | ⟨hj, rfl⟩
    · exact h i j yi yj hij hi hj
    · by_cases hn : (f yi).ownBlock = none
      · exact .inl hn
      · exact .inr (by rw [hy]; exact hn)
  · exact .inl hy
theorem Apart.set {f : ND → Value} {z : List ND} {n : Nat} {y y' : ND} (h : Apart f z) (hn : z[n]? = some y) (hb : (f y').ownBlock = (f y).ownBlock ∨ ∀ (j : Nat) (yj : ND), z[j]? = some yj → (f yj).ownBlock ≠ (f y').ownBlock) : Apart f (z.set n y') := by
  intro i j yi yj hij hi hj
  rw [List.getElem?_set] at hi hj
  by_cases h1 : n = i
  · subst h1
    rw [if_pos rfl, if_pos (List.getElem?_eq_some_iff.1 hn).1] at hi
    obtain rfl := Option.some.inj hi
    rw [if_neg hij] at hj
    rcases hb with hb | hb
    · rw [hb]; exact h n j y yj hij hn hj
    · exact .inr (Ne.symm (hb j yj hj))
  · rw [if_neg h1] at hi
    by_cases h2 : n = j
    · subst h2
      rw [if_pos rfl, if_pos (List.getElem?_eq_some_iff.1 hn).1] at hj
      obtain rfl := Option.some.inj hj
      rcases hb with hb | hb
      · rw [hb]; exact h i n yi y hij hi hn
      · exact .inr (hb i yi hi)
    · rw [if_neg h2] at hj
      exact h i j yi yj hij hi hj
structure NodesAt (B : Nat) (z : List ND) (nv : Value) (w : World) : Prop where
  row : w.ownsRow B 185 7 nv z.length (nodeCells z)
  kids : ∀ y ∈ z, w.ownsRow B 3 1 y.2.1 y.1.kids.length (intCells y.1.kids)
  pcs : ∀ y ∈ z, w.ownsRow B 51 2 y.2.2 y.1.pcs.length (spCells y.1.pcs)
  ak : Apart (fun y => y.2.1) z
  ap : Apart (fun y => y.2.2) z
section
variable {B : Nat} {z : List ND} {nv : Value} {w w' w1 : World}
theorem NodesAt.keep (h : NodesAt B z nv w) (hb : Below w.heap.size w w') : NodesAt B z nv w' :=
  ⟨owns_below h.row hb, fun y hy => owns_below (h.kids y hy) hb, fun y hy => owns_below (h.pcs y hy) hb, h.ak, h.ap⟩
/-- A block of another type turns. -/
theorem NodesAt.other (h : NodesAt B z nv w) {X : Nat} {cs : Array Value} {t : TypeId} {fz : Nat × Nat} (hX : w.heap[X]? = some (.cells cs t fz)) (h1 : 185 ≠ t) (h2 : 3 ≠ t) (h3 : 51 ≠ t) (hg : w.grownBy w' (some X)) : NodesAt B z nv w' :=
  ⟨h.row.kept hg (own_off h.row hX h1), fun y hy => (h.kids y hy).kept hg (own_off (h.kids y hy) hX h2), fun y hy => (h.pcs y hy).kept hg (own_off (h.pcs y hy) hX h3), h.ak, h.ap⟩
theorem NodesAt.nil (B : Nat) (w : World) : NodesAt B [] (.slice none 0 0) w :=
  ⟨⟨rfl, .inl ⟨rfl, rfl⟩⟩, fun y hy => (by cases hy), fun y hy => (by cases hy), fun i j yi yj _ h => (by simp at h), fun i j yi yj _ h => (by simp at h)⟩
/-- One node more. -/
theorem NodesAt.push (h : NodesAt B z nv w) {nv' : Value} {x : NodeD} (hk : x.kids = []) (hp : x.pcs = []) (hr : w'.ownsRow B 185 7 nv' (z.length + 1) (nodeCells z ++ ndCells (x, .slice none 0 0, .slice none 0 0))) (hg : w.grownBy w' nv.ownBlock) :
    NodesAt B (z ++ [(x, .slice none 0 0, .slice none 0 0)]) nv' w' := by
  refine ⟨?_, fun y hy => ?_, fun y hy => ?_, h.ak.push rfl, h.ap.push rfl⟩
  · have e : nodeCells (z ++ [(x, .slice none 0 0, .slice none 0 0)]) = nodeCells z ++ ndCells (x, .slice none 0 0, .slice none 0 0) := by unfold nodeCells; simp
    rw [e, List.length_append]
    exact hr
  · rcases List.mem_append.1 hy with hy | hy
    · exact (h.kids y hy).kept hg (own_ne (h.kids y hy) h.row (by decide))
    · rw [List.mem_singleton.1 hy]
      simp only []
      rw [hk]
      exact ⟨rfl, .inl ⟨rfl, rfl⟩⟩
  · rcases List.mem_append.1 hy with hy | hy
    · exact (h.pcs y hy).kept hg (own_ne (h.pcs y hy) h.row (by decide))
    · rw [List.mem_singleton.1 hy]
      simp only []
      rw [hp]
      exact ⟨rfl, .inl ⟨rfl, rfl⟩⟩
/-- Where the row of nodes lies. -/
theorem NodesAt.form (h : NodesAt B z nv w) (hz : z ≠ []) : ∃ g cap cur, nv = .slice (some ⟨g, 0, none⟩) z.length cap ∧ z.length ≤ cap ∧ B ≤ g ∧ w.heap[g]? = some (.cells cur 185 (0, 0)) := by
  rcases h.row.2 with ⟨_, h1⟩ | ⟨g, cap, cur, h1, h2, h3, h4, _⟩
  · exact absurd (List.length_eq_zero_iff.1 h1) hz
  · exact ⟨g, cap, cur, h1, h4, h2, h3⟩
theorem NodesAt.slice (h : NodesAt B z nv w) : ∃ p cap, nv = .slice p z.length cap := by
  rcases h.row.2 with ⟨h0, h1⟩ | ⟨g, cap, cur, h1, h2, h3, h4, _⟩
  · exact ⟨none, 0, by rw [h0, h1]⟩
  · exact ⟨_, cap, h1⟩
/-- A node's field. -/
theorem NodesAt.at_ {g cap : Nat} (h : NodesAt B z (.slice (some ⟨g, 0, none⟩) z.length cap) w) {n : Nat} {y : ND} (hy : z[n]? = some y) (i : Nat) (hi : i < 7) {u : Value} (hu : (ndCells y)[i]? = some u) :
    w.cell? ⟨g, n * 7 + i, none⟩ = some u ∧ w.frozen? ⟨g, n * 7 + i, none⟩ = false := by
  have hn := (List.getElem?_eq_some_iff.1 hy).1
  refine ⟨?_, World.ownsRow.frozenAt h.row _⟩
  rw [World.ownsRow.cellAt h.row _ (by omega), nodeCells_at z n y hy i hi, hu]
/-- A field that leads nowhere is set. -/
theorem NodesAt.field {g cap : Nat} (h : NodesAt B z (.slice (some ⟨g, 0, none⟩) z.length cap) w) {n : Nat} {y y' : ND} (hy : z[n]? = some y) (i : Nat) (hi : i < 7) (u : Value) (hu : (ndCells y).set i u = ndCells y') (hk : y'.1.kids = y.1.kids) (hp : y'.1.pcs = y.1.pcs) (h1 : y'.2 = y.2) :
    NodesAt B (z.set n y') (.slice (some ⟨g, 0, none⟩) (z.set n y').length cap) (w.setCell ⟨g, n * 7 + i, none⟩ u) := by
  obtain ⟨hr, hg⟩ := World.ownsRow.stored h.row (n * 7 + i) u
  obtain ⟨g', cap', cur, e, _, _, hcur⟩ := h.form (fun e => by rw [e] at hy; simp at hy)
  have hgg : g = g' := by injection e with e; injection e with e; injection e
  subst hgg
  rw [nodeCells_set z n y y' hy i u hi hu] at hr
  have hmem : ∀ x ∈ z.set n y', x = y' ∨ x ∈ z := fun x hx => (List.mem_or_eq_of_mem_set hx).symm
  refine ⟨by rw [List.length_set]; exact hr, fun x hx => ?_, fun x hx => ?_, ?_, ?_⟩
  · rcases hmem x hx with rfl | hx
    · rw [hk, h1]
      have hm := h.kids y (List.mem_of_getElem? hy)
      exact hm.kept hg (own_off hm hcur (by decide))
    · exact (h.kids x hx).kept hg (own_off (h.kids x hx) hcur (by decide))
  · rcases hmem x hx with rfl | hx
    · rw [hp, h1]
      have hm := h.pcs y (List.mem_of_getElem? hy)
      exact hm.kept hg (own_off hm hcur (by decide))
    · exact (h.pcs x hx).kept hg (own_off (h.pcs x hx) hcur (by decide))
  · exact h.ak.set hy (.inl (by rw [h1]))
  · exact h.ap.set hy (.inl (by rw [h1]))
/-- A kid more: its number is appended, and the row laid into the node. -/
theorem NodesAt.kid {g cap : Nat} (h : NodesAt B z (.slice (some ⟨g, 0, none⟩) z.length cap) w) {n k : Nat} {y : ND} (hy : z[n]? = some y) {kv : Value} {H : Nat} (hH : w.heap.size ≤ H)
    (hr : w1.ownsRow B 3 1 kv (y.1.kids.length + 1) (intCells y.1.kids ++ [.int .i64 (k : Int)])) (hg : w.grownBy w1 y.2.1.ownBlock) (hat : kv.ownBlock = y.2.1.ownBlock ∨ kv.ownBlock = some H) :
    NodesAt B (z.set n ({ y.1 with kids := y.1.kids ++ [k] }, kv, y.2.2)) (.slice (some ⟨g, 0, none⟩) (z.set n ({ y.1 with kids := y.1.kids ++ [k] }, kv, y.2.2)).length cap) (w1.setCell ⟨g, n * 7 + 5, none⟩ kv) := by
  have hkm := h.kids y (List.mem_of_getElem? hy)
  have hrow1 := h.row.kept hg (own_ne h.row hkm (by decide))
  obtain ⟨hr2, hg2⟩ := World.ownsRow.stored hrow1 (n * 7 + 5) kv
  obtain ⟨g', cap', cur, e, _, _, hcur0⟩ := h.form (fun e => by rw [e] at hy; simp at hy)
  have hgg : g = g' := by injection e with e; injection e with e; injection e
  subst hgg
  have hcur : w1.heap[g]? = some (.cells cur 185 (0, 0)) := by
    rw [hg.block g (cell_it hcur0) (fun e => by
      rcases own_off hkm hcur0 (by decide) with h1 | h1
      · rw [h1] at e; cases e
      · exact h1 e.symm)]
    exact hcur0
  rw [nodeCells_set z n y ({ y.1 with kids := y.1.kids ++ [k] }, kv, y.2.2) hy 5 kv (by omega) rfl] at hr2
  refine ⟨by rw [List.length_set]; exact hr2, fun x hx => ?_, fun x hx => ?_, ?_, ?_⟩
  · obtain ⟨j, hj⟩ := List.getElem?_of_mem hx
    rw [List.getElem?_set] at hj
    by_cases hnj : n = j
    · subst hnj
      rw [if_pos rfl, if_pos (List.getElem?_eq_some_iff.1 hy).1] at hj
      obtain rfl := Option.some.inj hj
      have e : intCells (y.1.kids ++ [k]) = intCells y.1.kids ++ [.int .i64 (k : Int)] := by unfold intCells; simp
      simp only [e, List.length_append, List.length_singleton]
      exact hr.kept hg2 (own_off hr hcur (by decide))
    · rw [if_neg hnj] at hj
      have hm := h.kids x (List.mem_of_getElem? hj)
      have h1 := hm.kept hg (h.ak j n x y (Ne.symm hnj) hj hy)
      exact h1.kept hg2 (own_off h1 hcur (by decide))
  · have key : ∀ x ∈ z, (w1.setCell ⟨g, n * 7 + 5, none⟩ kv).ownsRow B 51 2 x.2.2 x.1.pcs.length (spCells x.1.pcs) := fun x hx => by
      have hm := h.pcs x hx
      have h1 := hm.kept hg (own_ne hm hkm (by decide))
      exact h1.kept hg2 (own_off h1 hcur (by decide))
    rcases List.mem_or_eq_of_mem_set hx with hx | rfl
    · exact key x hx
    · exact key y (List.mem_of_getElem? hy)
  · refine h.ak.set hy ?_
    rcases hat with hat | hat
    · exact .inl hat
    · refine .inr (fun j yj hj e => ?_)
      have hm := h.kids yj (List.mem_of_getElem? hj)
      simp only [] at e
      rw [hat] at e
      have := (World.ownsRow.lt hm H e).2
      omega
  · exact h.ap.set hy (.inl rfl)
/-- A piece more. -/
theorem NodesAt.pc {g cap : Nat} (h : NodesAt B z (.slice (some ⟨g, 0, none⟩) z.length cap) w) {n : Nat} {k : Sp} {y : ND} (hy : z[n]? = some y) {kv : Value} {H : Nat} (hH : w.heap.size ≤ H)
    (hr : w1.ownsRow B 51 2 kv (y.1.pcs.length + 1) (spCells y.1.pcs ++ [.int .i64 (k.1 : Int), .int .i64 (k.2 : Int)])) (hg : w.grownBy w1 y.2.2.ownBlock) (hat : kv.ownBlock = y.2.2.ownBlock ∨ kv.ownBlock = some H) :
    NodesAt B (z.set n ({ y.1 with pcs := y.1.pcs ++ [k] }, y.2.1, kv)) (.slice (some ⟨g, 0, none⟩) (z.set n ({ y.1 with pcs := y.1.pcs ++ [k] }, y.2.1, kv)).length cap) (w1.setCell ⟨g, n * 7 + 6, none⟩ kv) := by
  have hkm := h.pcs y (List.mem_of_getElem? hy)
  have hrow1 := h.row.kept hg (own_ne h.row hkm (by decide))
  obtain ⟨hr2, hg2⟩ := World.ownsRow.stored hrow1 (n * 7 + 6) kv
  obtain ⟨g', cap', cur, e, _, _, hcur0⟩ := h.form (fun e => by rw [e] at hy; simp at hy)
  have hgg : g = g' := by injection e with e; injection e with e; injection e
  subst hgg
  have hcur : w1.heap[g]? = some (.cells cur 185 (0, 0)) := by
    rw [hg.block g (cell_it hcur0) (fun e => by
      rcases own_off hkm hcur0 (by decide) with h1 | h1
      · rw [h1] at e; cases e
      · exact h1 e.symm)]
    exact hcur0
  rw [nodeCells_set z n y ({ y.1 with pcs := y.1.pcs ++ [k] }, y.2.1, kv) hy 6 kv (by omega) rfl] at hr2
  refine ⟨by rw [List.length_set]; exact hr2, fun x hx => ?_, fun x hx => ?_, ?_, ?_⟩
  · have key : ∀ x ∈ z, (w1.setCell ⟨g, n * 7 + 6, none⟩ kv).ownsRow B 3 1 x.2.1 x.1.kids.length (intCells x.1.kids) := fun x hx => by
      have hm := h.kids x hx
      have h1 := hm.kept hg (own_ne hm hkm (by decide))
      exact h1.kept hg2 (own_off h1 hcur (by decide))
    rcases List.mem_or_eq_of_mem_set hx with hx | rfl
    · exact key x hx
    · exact key y (List.mem_of_getElem? hy)
  · obtain ⟨j, hj⟩ := List.getElem?_of_mem hx
    rw [List.getElem?_set] at hj
    by_cases hnj : n = j
    · subst hnj
      rw [if_pos rfl, if_pos (List.getElem?_eq_some_iff.1 hy).1] at hj
      obtain rfl := Option.some.inj hj
      have e : spCells (y.1.pcs ++ [k]) = spCells y.1.pcs ++ [.int .i64 (k.1 : Int), .int .i64 (k.2 : Int)] := by unfold spCells; simp
      simp only [e, List.length_append, List.length_singleton]
      exact hr.kept hg2 (own_off hr hcur (by decide))
    · rw [if_neg hnj] at hj
      have hm := h.pcs x (List.mem_of_getElem? hj)
      have h1 := hm.kept hg (h.ap j n x y (Ne.symm hnj) hj hy)
      exact h1.kept hg2 (own_off h1 hcur (by decide))
  · exact h.ak.set hy (.inl rfl)
  · refine h.ap.set hy ?_
    rcases hat with hat | hat
    · exact .inl hat
    · refine .inr (fun j yj hj e => ?_)
      have hm := h.pcs yj (List.mem_of_getElem? hj)
      simp only [] at e
      rw [hat] at e
      have := (World.ownsRow.lt hm H e).2
      omega
end
/-- What a reading may turn: the parser's block, blocks of nodes, numbers, spans; nothing of the caller's older world. -/
def mutT (t : TypeId) : Bool := t == 185 || t == 3 || t == 51
def Safe (o : Obj) : Prop := match o with
  | .cells _ t _ => mutT t = false
  | _ => True
structure Fr (B P : Nat) (w w' : World) : Prop where
  bel : Below B w w'
  sz : w.heap.size ≤ w'.heap.size
  blk : ∀ (k : Nat) (o : Obj), w.heap[k]? = some o → k ≠ P → Safe o → w'.heap[k]? = some o
theorem Fr.trans {B P : Nat} {w w1 w2 : World} (h1 : Fr B P w w1) (h2 : Fr B P w1 w2) : Fr B P w w2 :=
  ⟨h1.bel.trans h2.bel, Nat.le_trans h1.sz h2.sz, fun k o hk hP hs => h2.blk k o (h1.blk k o hk hP hs) hP hs⟩
theorem Fr.refl (B P : Nat) (w : World) : Fr B P w w := ⟨Below.refl _ _, Nat.le_refl _, fun _ _ h _ _ => h⟩
theorem Fr.of_below {B P : Nat} {w w' : World} (h : Below w.heap.size w w') (hB : B ≤ w.heap.size) : Fr B P w w' :=
  ⟨h.mono hB, h.size, fun k o hk _ _ => by rw [h.block k (cell_it hk)]; exact hk⟩
theorem Fr.setP {B P i : Nat} {w : World} {u : Value} (hP : B ≤ P) : Fr B P w (w.setCell ⟨P, i, none⟩ u) :=
  ⟨(Below.refl B w).setCell (p := ⟨P, i, none⟩) hP u, by simp [World.setCell], fun k o hk hne _ => by rw [Below.heap_setCell _ _ _ k hne]; exact hk⟩
theorem Fr.setM {B P X i : Nat} {w : World} {u : Value} {cs : Array Value} {t : TypeId} {fz : Nat × Nat} (hX : w.heap[X]? = some (.cells cs t fz)) (ht : mutT t = true) (hB : B ≤ X) : Fr B P w (w.setCell ⟨X, i, none⟩ u) :=
  ⟨(Below.refl B w).setCell (p := ⟨X, i, none⟩) hB u, by simp [World.setCell], fun k o hk hne hs => by
    rw [Below.heap_setCell _ _ _ k (fun e => by
      subst e
      rw [hk] at hX
      obtain rfl := Option.some.inj hX
      unfold Safe at hs
      simp only [] at hs
      rw [ht] at hs; cases hs)]
    exact hk⟩
theorem Fr.grown {B P : Nat} {w w' : World} {e : TypeId} {s : Nat} {v : Value} {n : Nat} {xs : List Value} (hr : w.ownsRow B e s v n xs) (ht : mutT e = true) (hg : w.grownBy w' v.ownBlock) (hB : B ≤ w.heap.size) : Fr B P w w' :=
  ⟨(Below.refl B w).grown hg hB (fun k hk => (World.ownsRow.lt hr k hk).1), hg.size, fun k o hk hne hs => by
    rw [hg.block k (cell_it hk) (fun e => by
      rcases hr.2 with ⟨rfl, _⟩ | ⟨g, cap, cur, rfl, _, hgc, _⟩
      · cases e
      · obtain rfl : k = g := Option.some.inj e
        rw [hk] at hgc
        obtain rfl := Option.some.inj hgc
        unfold Safe at hs
        simp only [] at hs
        rw [ht] at hs; cases hs)]
    exact hk⟩
end Go.Proofs.YtnnlpkbopeiefaaGreatDoor
