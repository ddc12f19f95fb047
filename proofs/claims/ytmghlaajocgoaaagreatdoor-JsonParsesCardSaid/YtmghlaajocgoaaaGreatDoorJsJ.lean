import Derived.Test.YtmghlaajocgoaaaGreatDoorJsI
import Derived.Test.YtmghlaajocgoaaaGreatDoorReg
/-! The walk of the parser's value: a node more. -/
namespace Go.Proofs.YtmghlaajocgoaaaGreatDoor
set_option linter.unusedSimpArgs false
set_option linter.unusedVariables false
open Go.RowKit Go.Maps Go.WideMaps
open Go.Lib hiding intOf

/-- What value's drawn region of twenty operations knows: 'val': each slot's value; the store (19) and what it waits for. -/
structure PF (val : Nat → Value) (S : World → Prop) (W0 : World) (ob : Obj) (Own : Value → World → Prop) (P : Nat) (d : Nat → Bool) (v : Nat → Value) (w' : World) : Prop where
  cl : ∀ i, i < 19 → i ≠ 16 → d i = true → v (38 + i) = val i
  st : S w'
  up : d 16 = true → d 15 = true ∧ d 4 = true
  up2 : d 19 = true → d 16 = true
  w0 : d 15 = false → w' = W0
  w1 : d 15 = true → d 16 = false → w' = W0.alloc ob
  w2 : d 16 = true → d 19 = false → Own (v 54) w'
  w3 : d 19 = true → ∃ nv w1, Own nv w1 ∧ w' = w1.setCell ⟨P, 4, none⟩ nv
section
variable {val : Nat → Value} {S : World → Prop} {W0 : World} {ob : Obj} {Own : Value → World → Prop} {P : Nat} {d : Nat → Bool} {v : Nat → Value} {w' : World}
theorem setB_or {d : Nat → Bool} {i j : Nat} (h : setB d i j = true) : j = i ∨ d j = true := by
  unfold setB at h
  by_cases hj : j = i
  · exact .inl hj
  · rw [if_neg hj] at h; exact .inr h
theorem setV_eq {v : Nat → Value} {k : Nat} {x : Value} : setV v (some k) x k = x := if_pos rfl
theorem setV_ne {v : Nat → Value} {k j : Nat} {x : Value} (h : j ≠ k) : setV v (some k) x j = v j := if_neg h
theorem PF.clSet (h : PF val S W0 ob Own P d v w') {i k : Nat} (hk : k = 38 + i) {x : Value} (hx : i = 16 ∨ x = val i) : ∀ j, j < 19 → j ≠ 16 → setB d i j = true → setV v (some k) x (38 + j) = val j := by
  subst hk
  intro j hj h16 hd
  by_cases hji : j = i
  · subst hji
    rw [setV_eq]
    exact hx.resolve_left h16
  · rw [setV_ne (by omega)]
    exact h.cl j hj h16 ((setB_or hd).resolve_left hji)
theorem PF.pure (h : PF val S W0 ob Own P d v w') {i k : Nat} (hk : k = 38 + i) {x : Value} (hx : x = val i) (h15 : i ≠ 15) (h16 : i ≠ 16) (h19 : i ≠ 19) : PF val S W0 ob Own P (setB d i) (setV v (some k) x) w' := by
  have e15 : setB d i 15 = d 15 := setB_ne (Ne.symm h15)
  have e16 : setB d i 16 = d 16 := setB_ne (Ne.symm h16)
  have e19 : setB d i 19 = d 19 := setB_ne (Ne.symm h19)
  refine ⟨h.clSet hk (.inr hx), h.st, fun a => ?_, fun a => ?_, fun a => ?_, fun a b => ?_, fun a b => ?_, fun a => ?_⟩
  · rw [e16] at a
    obtain ⟨a1, a2⟩ := h.up a
    refine ⟨by rw [e15]; exact a1, ?_⟩
    by_cases h4 : 4 = i
    · rw [h4]; exact setB_eq
    · rw [setB_ne h4]; exact a2
  · rw [e19] at a; rw [e16]; exact h.up2 a
  · rw [e15] at a; exact h.w0 a
  · rw [e15] at a; rw [e16] at b; exact h.w1 a b
  · rw [e16] at a; rw [e19] at b
    rw [setV_ne (by omega)]
    exact h.w2 a b
  · rw [e19] at a; exact h.w3 a
theorem PF.mk' (h : PF val S W0 ob Own P d v w') (hd : d 15 = false) {x : Value} (hx : x = val 15) (hS : S (W0.alloc ob)) : PF val S W0 ob Own P (setB d 15) (setV v (some 53) x) (W0.alloc ob) := by
  have e16 : setB d 15 16 = d 16 := setB_ne (by decide)
  have e19 : setB d 15 19 = d 19 := setB_ne (by decide)
  have h16 : d 16 = false := by
    cases hc : d 16 with
    | false => rfl
    | true => have := (h.up hc).1; rw [hd] at this; cases this
  have h19 : d 19 = false := by
    cases hc : d 19 with
    | false => rfl
    | true => have := h.up2 hc; rw [h16] at this; cases this
  refine ⟨h.clSet rfl (.inr hx), hS, fun a => ?_, fun a => ?_, fun a => ?_, fun _ _ => rfl, fun a => ?_, fun a => ?_⟩
  · rw [e16, h16] at a; cases a
  · rw [e19, h19] at a; cases a
  · rw [setB_eq] at a; cases a
  · rw [e16, h16] at a; cases a
  · rw [e19, h19] at a; cases a
theorem PF.app (h : PF val S W0 ob Own P d v w') (h15 : d 15 = true) (h4 : d 4 = true) (h16 : d 16 = false) {x : Value} {w2 : World} (hS : S w2) (ho : Own x w2) : PF val S W0 ob Own P (setB d 16) (setV v (some 54) x) w2 := by
  have e15 : setB d 16 15 = d 15 := setB_ne (by decide)
  have e4 : setB d 16 4 = d 4 := setB_ne (by decide)
  have e19 : setB d 16 19 = d 19 := setB_ne (by decide)
  have h19 : d 19 = false := by
    cases hc : d 19 with
    | false => rfl
    | true => have := h.up2 hc; rw [h16] at this; cases this
  refine ⟨h.clSet rfl (.inl rfl), hS, fun a => ⟨by rw [e15]; exact h15, by rw [e4]; exact h4⟩, fun a => setB_eq, fun a => ?_, fun a b => ?_, fun a b => ?_, fun a => ?_⟩
  · rw [e15, h15] at a; cases a
  · rw [setB_eq] at b; cases b
  · rw [setV_eq]; exact ho
  · rw [e19, h19] at a; cases a
theorem PF.sto (h : PF val S W0 ob Own P d v w') (h16 : d 16 = true) (h19 : d 19 = false) {x : Value} {k : Option Tmp} (hk : k = none) (hS : S (w'.setCell ⟨P, 4, none⟩ (v 54))) : PF val S W0 ob Own P (setB d 19) (setV v k x) (w'.setCell ⟨P, 4, none⟩ (v 54)) := by
  subst hk
  have e15 : setB d 19 15 = d 15 := setB_ne (by decide)
  have e4 : setB d 19 4 = d 4 := setB_ne (by decide)
  have e16 : setB d 19 16 = d 16 := setB_ne (by decide)
  refine ⟨fun j hj h1 h2 => ?_, hS, fun a => ?_, fun a => by rw [e16]; exact h16, fun a => ?_, fun a b => ?_, fun a b => ?_, fun a => ⟨v 54, w', h.w2 h16 h19, rfl⟩⟩
  · rw [setB_ne (by omega)] at h2
    exact h.cl j hj h1 h2
  · rw [e15, e4]; exact h.up h16
  · rw [e15, (h.up h16).1] at a; cases a
  · rw [e16, h16] at b; cases b
  · rw [setB_eq] at b; cases b
end
/-- append(p.nodes, x), at a step. -/
theorem wp_node {o : Oper} {a : Act} {K : Act → World → Prop} {Q : Exit → Act → World → Prop} (hgd : o.guard = none) (s x : Operand)
    (ho : o.op = .call { callee := .builtin .append, args := #[s, x], argTypes := #[23, 23] })
    (B : Nat) (w : World) (v : Value) (z : List ND) (y : NodeD) (cs : Array Value) (hcs : cs.toList = ndCells (y, .slice none 0 0, .slice none 0 0)) (hs : a.eval s = v) (hown : w.ownsRow B 37 7 v z.length (nodeCells z)) (hx : a.eval x = .slice (some ⟨w.heap.size, 0, none⟩) 1 1) (hl : z.length ≤ 4294967295) (hB : B ≤ w.heap.size)
    (hK : ∀ nv w', w'.ownsRow B 37 7 nv (z.length + 1) (nodeCells z ++ ndCells (y, .slice none 0 0, .slice none 0 0)) → w.grownBy w' v.ownBlock → K (a.put o.dst nv) w') :
    Oper.wp Tryz.prog o a (w.alloc (.cells cs 37)) K Q := by
  have h := step_node (ops := #[]) (Q := Q) (E := True) hgd s x ho B w v z y cs hcs hs hown hx hl hB hK
  rw [if_pos (by simp [Region.wanted, hgd])] at h
  exact h
theorem lt20 {i : Nat} (h : i < 20) : i = 0 ∨ i = 1 ∨ i = 2 ∨ i = 3 ∨ i = 4 ∨ i = 5 ∨ i = 6 ∨ i = 7 ∨ i = 8 ∨ i = 9 ∨ i = 10 ∨ i = 11 ∨ i = 12 ∨ i = 13 ∨ i = 14 ∨ i = 15 ∨ i = 16 ∨ i = 17 ∨ i = 18 ∨ i = 19 := by omega
def valP (P : Nat) (p0 : Option Addr) (nodes : List NodeD) (c0 q g o : Nat) (r : List Tok) (c : Nat) (t : Tok) (key : Sp) (H : Nat) : Nat → Value
  | 0 => .pointer (some ⟨P, 0, none⟩)
  | 1 => .pointer (some ⟨P, 0, none⟩)
  | 2 => .pointer (some ⟨P, 0, none⟩)
  | 3 => .pointer (some ⟨P, 4, none⟩)
  | 4 => .slice p0 nodes.length c0
  | 5 => .int .i64 (q : Int)
  | 6 => .pointer (some ⟨P, 0, none⟩)
  | 7 => .pointer (some ⟨P, 0, none⟩)
  | 8 => .pointer (some ⟨P, 1, none⟩)
  | 9 => .slice (some ⟨g, o, none⟩) (r.length + 1) c
  | 10 => .pointer (some ⟨g, o, none⟩)
  | 11 => .pointer (some ⟨g, o + 1, none⟩)
  | 12 => .agg #[.int .i64 (t.sf : Int), .int .i64 (t.st : Int)]
  | 13 => .agg #[.int .i64 (key.1 : Int), .int .i64 (key.2 : Int)]
  | 14 => .agg #[.int .i64 (q : Int), .int .i64 (t.sf : Int), .int .i64 (t.st : Int), .int .i64 (key.1 : Int), .int .i64 (key.2 : Int), .slice none 0 0, .slice none 0 0]
  | 15 => .slice (some ⟨H, 0, none⟩) 1 1
  | 17 => .pointer (some ⟨P, 0, none⟩)
  | 18 => .pointer (some ⟨P, 4, none⟩)
  | _ => undef
/-- What the region's cells hold while it runs. -/
def SP (W0 : World) (X Y g P : Nat) (rv : Value) (w' : World) : Prop := (w'.heap[X]? = W0.heap[X]? ∧ w'.heap[Y]? = W0.heap[Y]? ∧ w'.heap[g]? = W0.heap[g]?) ∧ w'.cell? ⟨P, 1, none⟩ = some rv
theorem JBox.nodes {w : World} {P : Nat} {txt : List UInt8} {rv nv : Value} {l : Sp} {a : Nat} {er : Int} (h : JBox w P txt rv l nv a er) (nv2 : Value) : JBox (w.setCell ⟨P, 4, none⟩ nv2) P txt rv l nv2 a er := by
  unfold JBox at h ⊢
  simp [World.setCell, Array.getElem?_modify, h]
theorem TV.head' {w : World} {v : Value} {t : Tok} {r : List Tok} (h : TV w v (t :: r)) : ∃ g o c, v = .slice (some ⟨g, o, none⟩) (r.length + 1) c ∧ r.length + 1 ≤ c ∧ w.cell? ⟨g, o, none⟩ = some (.int .i64 t.kind) ∧ w.cell? ⟨g, o + 1, none⟩ = some (.int .i64 t.sf) ∧ w.cell? ⟨g, o + 2, none⟩ = some (.int .i64 t.st) ∧
    ∃ cur, w.heap[g]? = some (.cells cur 51 (0, 0)) := by
  obtain ⟨p, c, h1, h2, h3⟩ := h
  rcases h3 with h3 | ⟨g, o, cur, rfl, h4, h5⟩
  · cases h3
  · simp only [List.length_cons] at h1 h2
    have h0 := h5 0 t rfl
    rw [Nat.zero_mul, Nat.add_zero] at h0
    exact ⟨g, o, c, h1, h2, h0.1, h0.2.1, h0.2.2, cur, h4⟩
theorem JZ.node {B P : Nat} {txt : List UInt8} {rest : List Tok} {l : Sp} {z : List ND} {nv : Value} {w w2 : World} (h : JZ B P txt rest l z nv w) {x : NodeD} (hk : x.kids = []) (hp : x.pcs = []) (hB : B ≤ w.heap.size) {nv2 : Value}
    (hr : w2.ownsRow B 37 7 nv2 (z.length + 1) (nodeCells z ++ ndCells (x, .slice none 0 0, .slice none 0 0))) (hg : w.grownBy w2 nv.ownBlock) :
    J B P txt rest l (z.map (·.1) ++ [x]) (w2.setCell ⟨P, 4, none⟩ nv2) ∧ Fr B P w (w2.setCell ⟨P, 4, none⟩ nv2) := by
  obtain ⟨rv, h1, h2, h3, h4⟩ := h
  obtain ⟨a1, a2⟩ := rest_kept h1 h2 hg (fun k hk => by
    obtain ⟨cur, hc⟩ := own_obj h3.row k hk
    exact ⟨cur, _, hc, by decide, by decide⟩)
  have hp2 := h3.push hk hp hr hg
  refine ⟨⟨rv, z ++ [(x, .slice none 0 0, .slice none 0 0)], nv2, a1.nodes nv2, ?_, by simp, hp2.other a1 (by decide) (by decide) (by decide) (grown_set w2 P 4 nv2), h4⟩, (Fr.grown h3.row (by decide) hg hB).trans (Fr.setP h4)⟩
  exact a2.same (fun g cur hg2 => (grown_set w2 P 4 nv2).block g (cell_it hg2) (fun e => by
    have e2 : g = P := Option.some.inj e
    subst e2
    unfold JBox at a1
    rw [a1] at hg2
    injection hg2 with hg2
    injection hg2 with _ hg2
    exact absurd hg2 (by decide)))
set_option maxRecDepth 100000 in
set_option maxHeartbeats 8000000 in
theorem value_push (w0 : World) (P : Nat) (txt : List UInt8) (hs : txt.length ≤ 65536) (w : World) (t : Tok) (r : List Tok) (l : Sp) (nodes : List NodeD) (key : Sp) (lev : Int) (h : J w0.heap.size P txt (t :: r) l nodes w) (hb : Below w0.heap.size w0 w) (hr : r.length ≤ 65537)
    (hk : kindOfT t.kind ≠ 0) (lv : Nat) (IH : VC w0 P txt lv) (hlev : lev + 1 = 33 - (lv : Int)) (hlev0 : 0 ≤ lev ∧ lev ≤ 32) (hm : nodes.length ≠ 4096) (hN : nodes.length + (r.length + 1) ≤ 131074) (ht : TB txt (t :: r)) (hSV : SVar w0) (hT : Tabs w0) :
    Calls Tryz.prog 22 #[.pointer (some ⟨P, 0, none⟩), .int .i64 lev, .agg #[.int .i64 (key.1 : Int), .int .i64 (key.2 : Int)]] w (VE w0.heap.size P txt (valueM txt (lv + 1) (t :: r) l nodes key) w) := by
  obtain ⟨R1, hR1⟩ : ∃ R1, (if t.kind = 4 then kidsM txt (valueM txt lv) 5 false nodes.length r (t.sf, t.st) (nodes ++ [⟨kindOfT t.kind, t.sf, t.st, key, [], []⟩]) else
      if t.kind = 2 then kidsM txt (valueM txt lv) 3 true nodes.length r (t.sf, t.st) (nodes ++ [⟨kindOfT t.kind, t.sf, t.st, key, [], []⟩]) else
      JR.ok r (t.sf, t.st) (nodes ++ [⟨kindOfT t.kind, t.sf, t.st, key, [], []⟩])) = R1 := ⟨_, rfl⟩
  have hval : valueM txt (lv + 1) (t :: r) l nodes key = endM nodes.length R1 := by
    rw [← hR1]
    show (if kindOfT t.kind = 0 then _ else _) = _
    rw [if_neg hk, if_neg hm]
  rw [hval]
  have HR1 := Lib.hid hR1
  have HTB := Lib.hid ht
  have HS := Lib.hid (And.intro hSV hT)
  have HNw := Lib.hid h.nodesN
  have h1 := h.keep (W1.bel w P key)
  have CK := Lib.hid (kind_any _ P txt (t :: r) l nodes _ h1 (by simp only [List.length_cons]; omega))
  have CO := Lib.hid (kindOf_any (kindT (t :: r)) (W1 w P key))
  obtain ⟨q, hq⟩ : ∃ q, kindOfT t.kind = q := ⟨_, rfl⟩
  rw [show kindOfT (kindT (t :: r)) = q from hq] at CO
  rw [hq] at hk HR1
  have HQ := Lib.hid hq
  have d0 : ((q : Int) == 0) = false := beq_eq_false_iff_ne.2 (by omega)
  have d1 : decide (32 < lev) = false := decide_eq_false (by omega)
  have hX := (cells_at1 (W1.X w P key)).1
  have hY := cells_at2 (W1.Y w P key)
  have HF := Lib.hid (Fr.of_below (P := P) (W1.bel w P key) hb.size)
  have HB := Lib.hid hb
  have hBw := hb.size
  have hPw := h.box.1
  obtain ⟨hPl, hBP, _, _⟩ := h1.box
  obtain ⟨rv, z, nv, b1, b2, b3, b4, b5⟩ := h1
  obtain ⟨p0, c0, rfl⟩ := b4.slice
  obtain ⟨q0, q1, _, _, q4, _, _, _, _, _, f4, _⟩ := b1.cells
  obtain ⟨g, o, c, rfl, hc, k0, k1, k2, hgT⟩ := b2.head'
  have hz : z.length = nodes.length := by rw [← b3, List.length_map]
  rw [hz] at q4
  have dm : ((nodes.length : Int) == 4096) = false := beq_eq_false_iff_ne.2 (by omega)
  have hsz := (W1.bel w P key).size
  have hXl : w.heap.size < (W1 w P key).heap.size := cell_it (W1.X w P key)
  have hYl : w.heap.size + 1 < (W1 w P key).heap.size := cell_it (W1.Y w P key)
  obtain ⟨gcur, hgT⟩ := hgT
  have hW0' : w0.heap.size ≤ (W1 w P key).drew.heap.size := Nat.le_trans hBw hsz
  have b4d := b4.keep (Below.refl _ (W1 w P key)).drew
  have b1d := b1.keep (Below.refl _ (W1 w P key)).drew
  have b2d := b2.keep (Below.refl _ (W1 w P key)).drew
  have hJZ : JZ w0.heap.size P txt (t :: r) l z (.slice p0 z.length c0) (W1 w P key).drew := ⟨_, b1d, b2d, b4d, hBP⟩
  have e : (P : Nat) ≠ w.heap.size := by omega
  have HS2 : Hid (∀ w2, (W1 w P key).drew.grownBy w2 (Value.slice p0 z.length c0).ownBlock → SP (W1 w P key).drew w.heap.size (w.heap.size + 1) g P (.slice (some ⟨g, o, none⟩) (r.length + 1) c) w2 ∧ w2.cell? ⟨P, 4, none⟩ = some (.slice p0 nodes.length c0) ∧ w2.frozen? ⟨P, 4, none⟩ = false ∧ ∀ u, SP (W1 w P key).drew w.heap.size (w.heap.size + 1) g P (.slice (some ⟨g, o, none⟩) (r.length + 1) c) (w2.setCell ⟨P, 4, none⟩ u)) := Lib.hid (fun w2 hg => by
    have off : ∀ (k : Nat) (cs : Array Value) (tt : TypeId), (W1 w P key).drew.heap[k]? = some (.cells cs tt (0, 0)) → 37 ≠ tt → w2.heap[k]? = (W1 w P key).drew.heap[k]? := fun k cs tt hk hne => hg.block k (cell_it hk) (fun e => by
      obtain ⟨cur, hc⟩ := own_obj b4d.row k e.symm
      rw [hk] at hc
      injection hc with hc
      injection hc with _ hc
      exact hne hc.symm)
    have oX := off _ _ _ (W1.X w P key) (by decide)
    have oY := off _ _ _ (W1.Y w P key) (by decide)
    have oG := off _ _ _ hgT (by decide)
    have oP := off _ _ _ b1d (by decide)
    have j2 : JBox w2 P txt (.slice (some ⟨g, o, none⟩) (r.length + 1) c) l (.slice p0 z.length c0) 0 0 := oP.trans b1d
    obtain ⟨_, e1, _, _, e4, _, _, _, _, _, g4, _⟩ := j2.cells
    rw [hz] at e4
    have hgP : g ≠ P := fun e => by
      have hq := b1
      unfold JBox at hq
      have hgT' : (W1 w P key).heap[P]? = some (.cells gcur 51 (0, 0)) := e ▸ hgT
      rw [hgT'] at hq
      injection hq with hq
      injection hq with _ hq
      exact absurd hq (by decide)
    refine ⟨⟨⟨oX, oY, oG⟩, e1⟩, e4, g4, fun u => ⟨⟨?_, ?_, ?_⟩, (j2.nodes u).cells.2.1⟩⟩
    · rw [Below.heap_setCell w2 ⟨P, 4, none⟩ u _ (by simp; omega)]; exact oX
    · rw [Below.heap_setCell w2 ⟨P, 4, none⟩ u _ (by simp; omega)]; exact oY
    · rw [Below.heap_setCell w2 ⟨P, 4, none⟩ u _ hgP]; exact oG)
  have HJZ := Lib.hid hJZ
  have HZ0 := Lib.hid b4d
  have HSs : SP (W1 w P key).drew w.heap.size (w.heap.size + 1) g P (.slice (some ⟨g, o, none⟩) (r.length + 1) c) (W1 w P key).drew := ⟨⟨rfl, rfl, rfl⟩, q1⟩
  obtain ⟨OB, hOB⟩ : ∃ ob : Obj, .cells #[.int .i64 (q : Int), .int .i64 (t.sf : Int), .int .i64 (t.st : Int), .int .i64 (key.1 : Int), .int .i64 (key.2 : Int), .slice none 0 0, .slice none 0 0] 37 = ob := ⟨_, rfl⟩
  have ba := below_alloc1 (W1 w P key).drew OB
  have HS1 : Hid (SP (W1 w P key).drew w.heap.size (w.heap.size + 1) g P (.slice (some ⟨g, o, none⟩) (r.length + 1) c) ((W1 w P key).drew.alloc OB)) := Lib.hid ⟨⟨ba.block _ hXl, ba.block _ hYl, ba.block _ (cell_it hgT)⟩, by rw [ba.cell (p := ⟨P, 1, none⟩) hPl]; exact q1⟩
  have HP4 : Hid (∀ d v w', PF (valP P p0 nodes c0 q g o r c t key (W1 w P key).drew.heap.size) (SP (W1 w P key).drew w.heap.size (w.heap.size + 1) g P (.slice (some ⟨g, o, none⟩) (r.length + 1) c)) (W1 w P key).drew OB (fun nv w2 => w2.ownsRow w0.heap.size 37 7 nv (z.length + 1) (nodeCells z ++ ndCells (⟨q, t.sf, t.st, key, [], []⟩, .slice none 0 0, .slice none 0 0)) ∧ (W1 w P key).drew.grownBy w2 (Value.slice p0 z.length c0).ownBlock) P d v w' → d 4 = false → w'.cell? ⟨P, 4, none⟩ = some (.slice p0 nodes.length c0)) := Lib.hid (fun d v w' hF h4 => by
    have h16 : d 16 = false := by
      cases hc : d 16 with
      | false => rfl
      | true => have := (hF.up hc).2; rw [h4] at this; cases this
    cases h15 : d 15 with
    | false => rw [hF.w0 h15]; exact q4
    | true => rw [hF.w1 h15 h16, ba.cell (p := ⟨P, 4, none⟩) hPl]; exact q4)
  have hX0 : (W1 w P key).drew.cell? ⟨w.heap.size, 0, none⟩ = some (.pointer (some ⟨P, 0, none⟩)) := hX
  have hY0 : (W1 w P key).drew.cell? ⟨w.heap.size + 1, 0, none⟩ = some (.int .i64 (key.1 : Int)) := hY.1
  have hY1 : (W1 w P key).drew.cell? ⟨w.heap.size + 1, 1, none⟩ = some (.int .i64 (key.2 : Int)) := hY.2
  have k1' : (W1 w P key).drew.cell? ⟨g, o + 1, none⟩ = some (.int .i64 (t.sf : Int)) := k1
  have k2' : (W1 w P key).drew.cell? ⟨g, o + 2, none⟩ = some (.int .i64 (t.st : Int)) := k2
  have dr : (0 : Int) < (r.length : Int) + 1 := by omega
  have hfol : Tryz.prog.follows .mixedOrders = true := by kernel_rfl
  clear h hb b1 b2 b4 hm hq hval hR1 ht hSV hT b1d b2d b4d hJZ ba hgT hsz hXl hYl hPl e
  go_enter Tryz.func22, Tryz.ntmps22
  go_upto_region 1 with fail
  change Code.wp _ _ _ _ (W1 w P key)
  go_wp2_with fail
  refine CK.out.mono ?_
  rintro e w2 ⟨rfl, rfl⟩
  go_wp2_with fail
  refine CO.out.mono ?_
  rintro e w2 ⟨rfl, rfl⟩
  go_upto_region 9 with fail
  clear k0 k1 k2 q0 hX hY d0 d1 dm
  obtain ⟨W0, hW0e⟩ : ∃ W, (W1 w P key).drew = W := ⟨_, rfl⟩
  refine wp_region_facts hfol [38, 39, 40, 41, 42, 43, 44, 45, 46, 47, 48, 49, 50, 51, 52, 53, 54, 55, 56] 90 rfl (by kernel_rfl) (by kernel_rfl) (fun d v w' => PF (valP P p0 nodes c0 q g o r c t key (W1 w P key).drew.heap.size) (SP (W1 w P key).drew w.heap.size (w.heap.size + 1) g P (.slice (some ⟨g, o, none⟩) (r.length + 1) c)) (W1 w P key).drew OB (fun nv w2 => w2.ownsRow w0.heap.size 37 7 nv (z.length + 1) (nodeCells z ++ ndCells (⟨q, t.sf, t.st, key, [], []⟩, .slice none 0 0, .slice none 0 0)) ∧ (W1 w P key).drew.grownBy w2 (Value.slice p0 z.length c0).ownBlock) P d v w') ⟨fun _ _ _ h => absurd h (by decide), HSs, fun h => absurd h (by decide), fun h => absurd h (by decide), fun _ => rfl, fun h => absurd h (by decide), fun h => absurd h (by decide), fun h => absurd h (by decide)⟩ ?_ ?_
  · intro d a w' i o' ho hi hall hfr hF R' hR
    have hi20 : i < 20 := (Array.getElem?_eq_some_iff.1 ho).1
    have q3 : a.tmps[3]?.getD undef = .pointer (some ⟨w.heap.size, 0, none⟩) := by rw [← Array.getD_eq_getD_getElem?]; exact hfr 3 (by decide)
    have q5 : a.tmps[5]?.getD undef = .pointer (some ⟨w.heap.size + 1, 0, none⟩) := by rw [← Array.getD_eq_getD_getElem?]; exact hfr 5 (by decide)
    have q7 : a.tmps[7]?.getD undef = .int .i64 (q : Int) := by rw [← Array.getD_eq_getD_getElem?]; exact hfr 7 (by decide)
    clear hfr
    rw [hW0e] at hF hR hX0 hY0 hY1 k1' k2' HP4 HS1 HS2 HZ0 hW0'
    rcases lt20 hi20 with rfl | rfl | rfl | rfl | rfl | rfl | rfl | rfl | rfl | rfl | rfl | rfl | rfl | rfl | rfl | rfl | rfl | rfl | rfl | rfl
    · simp only [List.getElem?_toArray, List.getElem?_cons_zero, List.getElem?_cons_succ, Option.some.injEq] at ho
      subst ho
      have x0 := (cell_same hF.st.1.1 0).trans hX0
      go_simp
      exact hR _ _ (hF.pure (i := 0) rfl rfl (by decide) (by decide) (by decide))
    · simp only [List.getElem?_toArray, List.getElem?_cons_zero, List.getElem?_cons_succ, Option.some.injEq] at ho
      subst ho
      have x0 := (cell_same hF.st.1.1 0).trans hX0
      go_simp
      exact hR _ _ (hF.pure (i := 1) rfl rfl (by decide) (by decide) (by decide))
    · simp only [List.getElem?_toArray, List.getElem?_cons_zero, List.getElem?_cons_succ, Option.some.injEq] at ho
      subst ho
      simp [Region.binds] at hall
      have c39 : a.tmps[39]?.getD undef = .pointer (some ⟨P, 0, none⟩) := by rw [← Array.getD_eq_getD_getElem?]; exact hF.cl 1 (by decide) (by decide) (by first | exact hall | exact hall.1 | exact hall.2 | exact hall.2.1 | exact hall.2.2)
      go_simp
      exact hR _ _ (hF.pure (i := 2) rfl rfl (by decide) (by decide) (by decide))
    · simp only [List.getElem?_toArray, List.getElem?_cons_zero, List.getElem?_cons_succ, Option.some.injEq] at ho
      subst ho
      simp [Region.binds] at hall
      have c40 : a.tmps[40]?.getD undef = .pointer (some ⟨P, 0, none⟩) := by rw [← Array.getD_eq_getD_getElem?]; exact hF.cl 2 (by decide) (by decide) (by first | exact hall | exact hall.1 | exact hall.2 | exact hall.2.1 | exact hall.2.2)
      go_simp
      exact hR _ _ (hF.pure (i := 3) rfl rfl (by decide) (by decide) (by decide))
    · simp only [List.getElem?_toArray, List.getElem?_cons_zero, List.getElem?_cons_succ, Option.some.injEq] at ho
      subst ho
      simp [Region.binds] at hall
      have c41 : a.tmps[41]?.getD undef = .pointer (some ⟨P, 4, none⟩) := by rw [← Array.getD_eq_getD_getElem?]; exact hF.cl 3 (by decide) (by decide) (by first | exact hall | exact hall.1 | exact hall.2 | exact hall.2.1 | exact hall.2.2)
      have x4 := HP4.out d _ w' hF hi
      go_simp
      exact hR _ _ (hF.pure (i := 4) rfl rfl (by decide) (by decide) (by decide))
    · simp only [List.getElem?_toArray, List.getElem?_cons_zero, List.getElem?_cons_succ, Option.some.injEq] at ho
      subst ho
      go_simp
      exact hR _ _ (hF.pure (i := 5) rfl rfl (by decide) (by decide) (by decide))
    · simp only [List.getElem?_toArray, List.getElem?_cons_zero, List.getElem?_cons_succ, Option.some.injEq] at ho
      subst ho
      have x0 := (cell_same hF.st.1.1 0).trans hX0
      go_simp
      exact hR _ _ (hF.pure (i := 6) rfl rfl (by decide) (by decide) (by decide))
    · simp only [List.getElem?_toArray, List.getElem?_cons_zero, List.getElem?_cons_succ, Option.some.injEq] at ho
      subst ho
      simp [Region.binds] at hall
      have c44 : a.tmps[44]?.getD undef = .pointer (some ⟨P, 0, none⟩) := by rw [← Array.getD_eq_getD_getElem?]; exact hF.cl 6 (by decide) (by decide) (by first | exact hall | exact hall.1 | exact hall.2 | exact hall.2.1 | exact hall.2.2)
      go_simp
      exact hR _ _ (hF.pure (i := 7) rfl rfl (by decide) (by decide) (by decide))
    · simp only [List.getElem?_toArray, List.getElem?_cons_zero, List.getElem?_cons_succ, Option.some.injEq] at ho
      subst ho
      simp [Region.binds] at hall
      have c45 : a.tmps[45]?.getD undef = .pointer (some ⟨P, 0, none⟩) := by rw [← Array.getD_eq_getD_getElem?]; exact hF.cl 7 (by decide) (by decide) (by first | exact hall | exact hall.1 | exact hall.2 | exact hall.2.1 | exact hall.2.2)
      go_simp
      exact hR _ _ (hF.pure (i := 8) rfl rfl (by decide) (by decide) (by decide))
    · simp only [List.getElem?_toArray, List.getElem?_cons_zero, List.getElem?_cons_succ, Option.some.injEq] at ho
      subst ho
      simp [Region.binds] at hall
      have c46 : a.tmps[46]?.getD undef = .pointer (some ⟨P, 1, none⟩) := by rw [← Array.getD_eq_getD_getElem?]; exact hF.cl 8 (by decide) (by decide) (by first | exact hall | exact hall.1 | exact hall.2 | exact hall.2.1 | exact hall.2.2)
      have x0 := hF.st.2
      go_simp
      exact hR _ _ (hF.pure (i := 9) rfl rfl (by decide) (by decide) (by decide))
    · simp only [List.getElem?_toArray, List.getElem?_cons_zero, List.getElem?_cons_succ, Option.some.injEq] at ho
      subst ho
      simp [Region.binds] at hall
      have c47 : a.tmps[47]?.getD undef = .slice (some ⟨g, o, none⟩) (r.length + 1) c := by rw [← Array.getD_eq_getD_getElem?]; exact hF.cl 9 (by decide) (by decide) (by first | exact hall | exact hall.1 | exact hall.2 | exact hall.2.1 | exact hall.2.2)
      go_simp
      exact hR _ _ (hF.pure (i := 10) rfl rfl (by decide) (by decide) (by decide))
    · simp only [List.getElem?_toArray, List.getElem?_cons_zero, List.getElem?_cons_succ, Option.some.injEq] at ho
      subst ho
      simp [Region.binds] at hall
      have c48 : a.tmps[48]?.getD undef = .pointer (some ⟨g, o, none⟩) := by rw [← Array.getD_eq_getD_getElem?]; exact hF.cl 10 (by decide) (by decide) (by first | exact hall | exact hall.1 | exact hall.2 | exact hall.2.1 | exact hall.2.2)
      go_simp
      exact hR _ _ (hF.pure (i := 11) rfl rfl (by decide) (by decide) (by decide))
    · simp only [List.getElem?_toArray, List.getElem?_cons_zero, List.getElem?_cons_succ, Option.some.injEq] at ho
      subst ho
      simp [Region.binds] at hall
      have c49 : a.tmps[49]?.getD undef = .pointer (some ⟨g, o + 1, none⟩) := by rw [← Array.getD_eq_getD_getElem?]; exact hF.cl 11 (by decide) (by decide) (by first | exact hall | exact hall.1 | exact hall.2 | exact hall.2.1 | exact hall.2.2)
      have x1 := (cell_same hF.st.1.2.2 (o + 1)).trans k1'
      have x2 := (cell_same hF.st.1.2.2 (o + 2)).trans k2'
      go_simp
      exact hR _ _ (hF.pure (i := 12) rfl rfl (by decide) (by decide) (by decide))
    · simp only [List.getElem?_toArray, List.getElem?_cons_zero, List.getElem?_cons_succ, Option.some.injEq] at ho
      subst ho
      have x1 := (cell_same hF.st.1.2.1 0).trans hY0
      have x2 := (cell_same hF.st.1.2.1 1).trans hY1
      go_simp
      exact hR _ _ (hF.pure (i := 13) rfl rfl (by decide) (by decide) (by decide))
    · simp only [List.getElem?_toArray, List.getElem?_cons_zero, List.getElem?_cons_succ, Option.some.injEq] at ho
      subst ho
      simp [Region.binds] at hall
      have c43 : a.tmps[43]?.getD undef = .int .i64 (q : Int) := by rw [← Array.getD_eq_getD_getElem?]; exact hF.cl 5 (by decide) (by decide) (by first | exact hall | exact hall.1 | exact hall.2 | exact hall.2.1 | exact hall.2.2)
      have c50 : a.tmps[50]?.getD undef = .agg #[.int .i64 (t.sf : Int), .int .i64 (t.st : Int)] := by rw [← Array.getD_eq_getD_getElem?]; exact hF.cl 12 (by decide) (by decide) (by first | exact hall | exact hall.1 | exact hall.2 | exact hall.2.1 | exact hall.2.2)
      have c51 : a.tmps[51]?.getD undef = .agg #[.int .i64 (key.1 : Int), .int .i64 (key.2 : Int)] := by rw [← Array.getD_eq_getD_getElem?]; exact hF.cl 13 (by decide) (by decide) (by first | exact hall | exact hall.1 | exact hall.2 | exact hall.2.1 | exact hall.2.2)
      go_simp
      exact hR _ _ (hF.pure (i := 14) rfl rfl (by decide) (by decide) (by decide))
    · simp only [List.getElem?_toArray, List.getElem?_cons_zero, List.getElem?_cons_succ, Option.some.injEq] at ho
      subst ho
      simp [Region.binds] at hall
      have c52 : a.tmps[52]?.getD undef = .agg #[.int .i64 (q : Int), .int .i64 (t.sf : Int), .int .i64 (t.st : Int), .int .i64 (key.1 : Int), .int .i64 (key.2 : Int), .slice none 0 0, .slice none 0 0] := by rw [← Array.getD_eq_getD_getElem?]; exact hF.cl 14 (by decide) (by decide) (by first | exact hall | exact hall.1 | exact hall.2 | exact hall.2.1 | exact hall.2.2)
      obtain rfl := hF.w0 hi
      go_simp
      exact hR _ _ (hF.mk' hi rfl HS1.out)
    · simp only [List.getElem?_toArray, List.getElem?_cons_zero, List.getElem?_cons_succ, Option.some.injEq] at ho
      subst ho
      simp [Region.binds] at hall
      have e4 : d 4 = true := by first | exact hall | exact hall.1 | exact hall.2 | exact hall.2.1 | exact hall.2.2
      have e15 : d 15 = true := by first | exact hall | exact hall.1 | exact hall.2 | exact hall.2.1 | exact hall.2.2
      have c42 : a.tmps.getD 42 undef = .slice p0 nodes.length c0 := by exact hF.cl 4 (by decide) (by decide) (e4)
      have c53 : a.tmps.getD 53 undef = .slice (some ⟨W0.heap.size, 0, none⟩) 1 1 := by exact hF.cl 15 (by decide) (by decide) (e15)
      obtain rfl := hF.w1 e15 hi
      rw [← hOB]
      exact wp_node rfl (.tmp 42) (.tmp 53) rfl w0.heap.size W0 (.slice p0 z.length c0) z ⟨q, t.sf, t.st, key, [], []⟩ _ rfl (by rw [hz]; exact c42) HZ0.out.row c53 (by omega) hW0' (fun nv w2 hr2 hg2 => hR _ _ (hF.app e15 e4 hi (HS2.out w2 hg2).1 ⟨hr2, hg2⟩))
    · simp only [List.getElem?_toArray, List.getElem?_cons_zero, List.getElem?_cons_succ, Option.some.injEq] at ho
      subst ho
      simp [Region.binds] at hall
      have c38 : a.tmps[38]?.getD undef = .pointer (some ⟨P, 0, none⟩) := by rw [← Array.getD_eq_getD_getElem?]; exact hF.cl 0 (by decide) (by decide) (by first | exact hall | exact hall.1 | exact hall.2 | exact hall.2.1 | exact hall.2.2)
      go_simp
      exact hR _ _ (hF.pure (i := 17) rfl rfl (by decide) (by decide) (by decide))
    · simp only [List.getElem?_toArray, List.getElem?_cons_zero, List.getElem?_cons_succ, Option.some.injEq] at ho
      subst ho
      simp [Region.binds] at hall
      have c55 : a.tmps[55]?.getD undef = .pointer (some ⟨P, 0, none⟩) := by rw [← Array.getD_eq_getD_getElem?]; exact hF.cl 17 (by decide) (by decide) (by first | exact hall | exact hall.1 | exact hall.2 | exact hall.2.1 | exact hall.2.2)
      go_simp
      exact hR _ _ (hF.pure (i := 18) rfl rfl (by decide) (by decide) (by decide))
    · simp only [List.getElem?_toArray, List.getElem?_cons_zero, List.getElem?_cons_succ, Option.some.injEq] at ho
      subst ho
      simp [Region.binds] at hall
      have e16 : d 16 = true := by first | exact hall | exact hall.1 | exact hall.2 | exact hall.2.1 | exact hall.2.2
      have e18 : d 18 = true := by first | exact hall | exact hall.1 | exact hall.2 | exact hall.2.1 | exact hall.2.2
      have c56 : a.tmps[56]?.getD undef = .pointer (some ⟨P, 4, none⟩) := by rw [← Array.getD_eq_getD_getElem?]; exact hF.cl 18 (by decide) (by decide) (e18)
      obtain ⟨_, x4, f4, hS4⟩ := HS2.out w' (hF.w2 e16 hi).2
      obtain ⟨gn, cn, hV⟩ := own_succ (hF.w2 e16 hi).1
      have hV : a.tmps.getD 54 undef = .slice (some ⟨gn, 0, none⟩) (z.length + 1) cn := hV
      rw [hz] at hV
      have c54 : a.tmps[54]?.getD undef = .slice (some ⟨gn, 0, none⟩) (nodes.length + 1) cn := by rw [← Array.getD_eq_getD_getElem?]; exact hV
      have hfin := fun x => hF.sto e16 hi (x := x) (k := none) rfl (hS4 _)
      simp only [hV] at hfin
      go_simp
      exact hR undef _ (hfin undef)
  · intro v W9 hF
    rw [hW0e] at hF HJZ hW0'
    obtain ⟨nv2, w1, ⟨hr2, hg2⟩, hW⟩ := hF.w3 (by decide)
    obtain ⟨hj9, hf9⟩ := HJZ.out.node (x := ⟨q, t.sf, t.st, key, [], []⟩) rfl rfl hW0' hr2 hg2
    rw [← hW] at hj9 hf9
    have hj9 := hj9.cast (congrArg (· ++ [(⟨q, t.sf, t.st, key, [], []⟩ : NodeD)]) b3)
    have hx9 : W9.heap[w.heap.size]? = some (.cells #[.pointer (some ⟨P, 0, none⟩)] 54) := hF.st.1.1.trans (by rw [← hW0e]; exact W1.X w P key)
    have HF9 := Lib.hid (HF.out.trans ((Fr.of_below (by rw [← hW0e]; exact (Below.refl _ (W1 w P key)).drew) (Nat.le_trans hBw HF.out.sz)).trans hf9))
    have x9 := (cells_at1 hx9).1
    have HX9 := Lib.hid hx9
    have CSk := Lib.hid (skip_any _ P txt t r l _ W9 hj9 (by omega))
    simp only [fillT, List.setIfInBounds_toArray, List.set_cons_succ, List.set_cons_zero]
    clear hF hr2 hg2 hW hj9 hf9 hx9 HJZ HP4 HS1 HS2 HZ0 HSs hX0 hY0 hY1 k1' k2' hW0' q1 q4 f4 CK CO
    go_wp2_with fail
    refine CSk.out.mono ?_
    rintro e w10 ⟨rfl, hj10, hg10⟩
    have hw9 := Nat.le_trans hBw HF9.out.sz
    have hx10 : w10.heap[w.heap.size]? = some (.cells #[.pointer (some ⟨P, 0, none⟩)] 54) := (hg10.block _ (cell_it HX9.out) (fun e => by have := Option.some.inj e; omega)).trans HX9.out
    have HF10 := Lib.hid (HF9.out.trans (Fr.ofP hg10 hBP hw9))
    have HX10 := Lib.hid hx10
    have HJ10 := Lib.hid hj10
    have x10 := (cells_at1 hx10).1
    have hw10 : w0.heap.size ≤ w10.heap.size := Nat.le_trans hBw HF10.out.sz
    have HB10 : Hid (Below w0.heap.size w0 w10) := Lib.hid (HB.out.trans HF10.out.bel)
    have hn10 : nodesN P w10 = nodes.length + 1 := by rw [hj10.nodesN, List.length_append]; rfl
    have HN10 := Lib.hid hn10
    have hmid : Mid nodes (⟨q, t.sf, t.st, key, [], []⟩ : NodeD) [] (nodes ++ [(⟨q, t.sf, t.st, key, [], []⟩ : NodeD)]) := ⟨rfl, by simp, by simp, fun y hy => by cases hy⟩
    have HMid := Lib.hid hmid
    have hlen : (nodes ++ [(⟨q, t.sf, t.st, key, [], []⟩ : NodeD)]).length + r.length ≤ 131074 := by rw [List.length_append, List.length_singleton]; omega
    have HT10 : Hid (TB txt r) := Lib.hid (HTB.out.drop 1)
    clear hj10 hg10 hx10 HX9 x9 CSk hn10 hmid HF9
    go_upto_block 1 with fail
    go_cut [9] (fun s9 wx => ∃ b, s9 = .bool b ∧ Hid (KO w0.heap.size P txt nodes.length R1 b wx) ∧ Hid (Fr w0.heap.size P w wx) ∧ Hid (wx.heap[w.heap.size]? = some (.cells #[.pointer (some ⟨P, 0, none⟩)] 54)))
    case first =>
      by_cases h4 : t.kind = 4
      · have hq5 : q = 5 := by rw [← HQ.out, h4]; rfl
        subst hq5
        have hR := HR1.out
        rw [if_pos h4] at hR
        have CA := kidsArr_any w0 P txt lv IH w10 r (t.sf, t.st) nodes _ [] _ lev HJ10.out HMid.out HB10.out HT10.out hlen hlev hlev0 hs
        rw [hR] at CA
        have HCA := Lib.hid CA
        have HKO : Hid (∀ e w', VE w0.heap.size P txt R1 w10 e w' → ∃ b, e = .returned (.bool b) ∧ KO w0.heap.size P txt nodes.length R1 b w' ∧ Fr w0.heap.size P w10 w') := Lib.hid (fun e w' hE => KO.of hE HN10.out (fun rr ll ns he => by
          obtain ⟨x', post', hm, _⟩ := kids_ext (value_ext txt lv) HMid.out (hR.trans he)
          exact hm.lt))
        clear CA hR h4 HR1
        go_wp2_with fail
        refine HCA.out.mono ?_
        rintro e w11 hE
        obtain ⟨b, rfl, hko, hfr⟩ := HKO.out _ _ hE
        have HK11 := Lib.hid hko
        have HX11 := Lib.hid (hfr.blk _ _ HX10.out (by omega) (by rfl))
        have HF11 := Lib.hid (HF10.out.trans hfr)
        clear hko hfr hE
        go_wp2_with fail
        go_meet
        exact ⟨b, rfl, HK11, HF11, HX11⟩
      · by_cases h2 : t.kind = 2
        · have hq6 : q = 6 := by rw [← HQ.out, h2]; rfl
          subst hq6
          have hR := HR1.out
          rw [if_neg h4, if_pos h2] at hR
          obtain ⟨m1, m2, m3⟩ := WM.facts w10
          have hJM := HJ10.out.keep m1
          have hXM := (m1.block _ (cell_it HX10.out)).trans HX10.out
          have hlM := cell_it HX10.out
          have CA := kidsObj_any w0 P txt lv IH w10.heap.size w.heap.size (w10.heap.size + 1) (WM w10) r (t.sf, t.st) nodes _ [] _ lev hJM HMid.out (HB10.out.trans (m1.mono hw10)) HT10.out hlen hlev hlev0 hs hXM m3 m2 hw10 HS.out.1 HS.out.2
          rw [hR] at CA
          have HCA := Lib.hid CA
          have HKO : Hid (∀ e w', KE w0.heap.size P w10.heap.size txt R1 (WM w10) e w' → ∃ b, e = .returned (.bool b) ∧ KO w0.heap.size P txt nodes.length R1 b w' ∧ FrX w0.heap.size P w10.heap.size (WM w10) w') := Lib.hid (fun e w' hE => KO.ofX hE (by rw [hJM.nodesN, List.length_append]; rfl) (fun rr ll ns he => by
            obtain ⟨x', post', hm, _⟩ := kids_ext (value_ext txt lv) HMid.out (hR.trans he)
            exact hm.lt))
          have HM1 := Lib.hid m1
          clear CA hR h4 h2 HR1 m1 m2 m3 hJM hXM
          have hmm := @run_makeMap Tryz.prog
          go_wp2_with fail
          refine HCA.out.mono ?_
          rintro e w11 hE
          obtain ⟨b, rfl, hko, hfr⟩ := HKO.out _ _ hE
          have HK11 := Lib.hid hko
          have HX11 := Lib.hid (hfr.blk _ _ ((HM1.out.block _ hlM).trans HX10.out) (by omega) (by omega) (by rfl))
          have HF11 := Lib.hid (HF10.out.trans (FrX.out (Fr.of_below HM1.out hw10) hfr (Nat.le_refl _)))
          clear hko hfr hE
          go_wp2_with fail
          go_meet
          exact ⟨b, rfl, HK11, HF11, HX11⟩
        · have hR := HR1.out
          rw [if_neg h4, if_neg h2] at hR
          have hq5 : ((q : Int) == 5) = false := beq_eq_false_iff_ne.2 (by have := kindOf_ne h4 h2; rw [HQ.out] at this; omega)
          have hq6 : ((q : Int) == 6) = false := beq_eq_false_iff_ne.2 (by have := kindOf_ne h4 h2; rw [HQ.out] at this; omega)
          have HK : Hid (KO w0.heap.size P txt nodes.length R1 true w10) := Lib.hid (by rw [← hR]; exact ⟨rfl, HJ10.out, HMid.out.lt⟩)
          clear hR h4 h2 HR1
          go_wp2_with fail
          go_meet
          exact ⟨true, rfl, HK, HF10, HX10⟩
    case rest =>
      obtain ⟨b, rfl, HK, HFx, HX⟩ := hcut
      obtain ⟨lt, g', cap', len, st, c3, c4, hnl, cst, cfz, hoff, hPg, hfin⟩ := HK.out.fin
      have xX := (cells_at1 HX.out).1
      have hXg := hoff _ _ _ HX.out (by decide)
      have hnz : (0 : Int) ≤ (nodes.length : Int) := by omega
      have hnz2 : (nodes.length : Int) < (len : Int) := by omega
      have HFin := Lib.hid (hfin w (by rw [HNw.out]; omega) HFx.out)
      clear hoff hfin HMid HX10 HJ10 HF10 HX HK x10
      go_upto_region 18 with fail
      go_region
      all_goals
        go_wp2_with fail
        go_ret
        exact HFin.out.drew
end Go.Proofs.YtmghlaajocgoaaaGreatDoor
