import Derived.Test.YtmghlaajocgoaaaGreatDoorRj1
/-! The document's parser: a kid more; what value and kids leave. -/
namespace Go.Proofs.YtmghlaajocgoaaaGreatDoor
set_option linter.unusedSimpArgs false
set_option linter.unusedVariables false
set_option linter.unnecessarySimpa false
open Go.RowKit Go.Maps Go.WideMaps
open Go.Lib hiding intOf

/-- The parser's block and its tokens, where a block of another type turns. -/
theorem qrest_kept {w w' : World} {P : Nat} {txt : List UInt8} {lv nv : Value} {k a : Nat} {er : Int} {L : List Tok} {r : Option Nat} (hb : QBox w P txt lv k nv a er) (ht : TV w lv L) (hg : w.grownBy w' r)
    (hr : ∀ k, r = some k → ∃ cs t, w.heap[k]? = some (.cells cs t (0, 0)) ∧ t ≠ 49 ∧ t ≠ 51) : QBox w' P txt lv k nv a er ∧ TV w' lv L := by
  refine ⟨?_, ht.same (fun g cur hk => hg.block g (cell_it hk) (fun e => ?_))⟩
  · refine (hg.block P hb.lt (fun e => ?_)).trans hb
    obtain ⟨cs, t, h1, h2, _⟩ := hr P e.symm
    have h0 := hb
    unfold QBox at h0
    rw [h1] at h0
    injection h0 with h0
    injection h0 with _ h0
    exact h2 h0
  · obtain ⟨cs, t, h1, _, h2⟩ := hr g e.symm
    rw [h1] at hk
    injection hk with hk
    injection hk with _ hk
    exact h2 hk
section
variable {B P : Nat} {txt : List UInt8} {L : List Tok} {k : Nat} {z : List ND} {nv : Value} {w w1 : World} {g cap : Nat}
theorem QZ.form (h : QZ B P txt L k z nv w) (hz : z ≠ []) : ∃ g cap, nv = .slice (some ⟨g, 0, none⟩) z.length cap ∧ z.length ≤ cap := by
  obtain ⟨lv, h1, h2, _, h3, h4⟩ := h
  obtain ⟨g, cap, cur, e1, e2, _⟩ := h3.form hz
  exact ⟨g, cap, e1, e2⟩
theorem QZ.at_ (h : QZ B P txt L k z nv w) : NodesAt B z nv w := by
  obtain ⟨lv, h1, h2, _, h3, h4⟩ := h
  exact h3
theorem QZ.c3 (h : QZ B P txt L k z nv w) : w.cell? ⟨P, 3, none⟩ = some nv := by
  obtain ⟨lv, h1, _⟩ := h
  exact h1.cells.2.2.2.1
/-- .. while a row of the nodes grows. -/
theorem QZ.c3_kids (h : QZ B P txt L k z nv w) {y : ND} (hy : y ∈ z) (hg : w.grownBy w1 y.2.1.ownBlock) : w1.cell? ⟨P, 3, none⟩ = some nv := by
  obtain ⟨lv, h1, h2, _, h3, h4⟩ := h
  exact (qrest_kept h1 h2 hg (fun k hk => by
    obtain ⟨cur, hc⟩ := own_obj (h3.kids y hy) k hk
    exact ⟨cur, _, hc, by decide, by decide⟩)).1.cells.2.2.2.1
theorem QZ.c3_pcs (h : QZ B P txt L k z nv w) {y : ND} (hy : y ∈ z) (hg : w.grownBy w1 y.2.2.ownBlock) : w1.cell? ⟨P, 3, none⟩ = some nv := by
  obtain ⟨lv, h1, h2, _, h3, h4⟩ := h
  exact (qrest_kept h1 h2 hg (fun k hk => by
    obtain ⟨cur, hc⟩ := own_obj (h3.pcs y hy) k hk
    exact ⟨cur, _, hc, by decide, by decide⟩)).1.cells.2.2.2.1
theorem QZ.kid (h : QZ B P txt L k z (.slice (some ⟨g, 0, none⟩) z.length cap) w) {n m : Nat} {y : ND} (hy : z[n]? = some y) {kv : Value} {H : Nat} (hH : w.heap.size ≤ H) (hB : B ≤ w.heap.size)
    (hr : w1.ownsRow B 3 1 kv (y.1.kids.length + 1) (intCells y.1.kids ++ [.int .i64 (m : Int)])) (hg : w.grownBy w1 y.2.1.ownBlock) (hat : kv.ownBlock = y.2.1.ownBlock ∨ kv.ownBlock = some H) :
    QZ B P txt L k (z.set n ({ y.1 with kids := y.1.kids ++ [m] }, kv, y.2.2)) (.slice (some ⟨g, 0, none⟩) (z.set n ({ y.1 with kids := y.1.kids ++ [m] }, kv, y.2.2)).length cap) (w1.setCell ⟨g, n * 7 + 5, none⟩ kv) ∧ Fr B P w (w1.setCell ⟨g, n * 7 + 5, none⟩ kv) := by
  obtain ⟨lv, h1, h2, hk, h3, h4⟩ := h
  have hkm := h3.kids y (List.mem_of_getElem? hy)
  obtain ⟨a1, a2⟩ := qrest_kept h1 h2 hg (fun k hk => by
    obtain ⟨cur, hc⟩ := own_obj hkm k hk
    exact ⟨cur, _, hc, by decide, by decide⟩)
  have hrow1 := h3.row.kept hg (own_ne h3.row hkm (by decide))
  obtain ⟨cur, hcur⟩ := own_obj hrow1 g rfl
  obtain ⟨b1, b2⟩ := qrest_kept a1 a2 (grown_set w1 g (n * 7 + 5) kv) (fun k hk => by
    have e : g = k := Option.some.inj hk
    subst e
    exact ⟨cur, _, hcur, by decide, by decide⟩)
  have hgB : B ≤ g := (World.ownsRow.lt hrow1 g rfl).1
  refine ⟨⟨lv, ?_, b2, hk, h3.kid hy hH hr hg hat, h4⟩, (Fr.grown hkm (by decide) hg hB).trans (Fr.setM hcur (by decide) hgB)⟩
  rw [List.length_set]
  exact b1
theorem QZ.pc (h : QZ B P txt L k z (.slice (some ⟨g, 0, none⟩) z.length cap) w) {n : Nat} {m : Sp} {y : ND} (hy : z[n]? = some y) {kv : Value} {H : Nat} (hH : w.heap.size ≤ H) (hB : B ≤ w.heap.size)
    (hr : w1.ownsRow B 33 2 kv (y.1.pcs.length + 1) (spCells y.1.pcs ++ [.int .i64 (m.1 : Int), .int .i64 (m.2 : Int)])) (hg : w.grownBy w1 y.2.2.ownBlock) (hat : kv.ownBlock = y.2.2.ownBlock ∨ kv.ownBlock = some H) :
    QZ B P txt L k (z.set n ({ y.1 with pcs := y.1.pcs ++ [m] }, y.2.1, kv)) (.slice (some ⟨g, 0, none⟩) (z.set n ({ y.1 with pcs := y.1.pcs ++ [m] }, y.2.1, kv)).length cap) (w1.setCell ⟨g, n * 7 + 6, none⟩ kv) ∧ Fr B P w (w1.setCell ⟨g, n * 7 + 6, none⟩ kv) := by
  obtain ⟨lv, h1, h2, hk, h3, h4⟩ := h
  have hkm := h3.pcs y (List.mem_of_getElem? hy)
  obtain ⟨a1, a2⟩ := qrest_kept h1 h2 hg (fun k hk => by
    obtain ⟨cur, hc⟩ := own_obj hkm k hk
    exact ⟨cur, _, hc, by decide, by decide⟩)
  have hrow1 := h3.row.kept hg (own_ne h3.row hkm (by decide))
  obtain ⟨cur, hcur⟩ := own_obj hrow1 g rfl
  obtain ⟨b1, b2⟩ := qrest_kept a1 a2 (grown_set w1 g (n * 7 + 6) kv) (fun k hk => by
    have e : g = k := Option.some.inj hk
    subst e
    exact ⟨cur, _, hcur, by decide, by decide⟩)
  have hgB : B ≤ g := (World.ownsRow.lt hrow1 g rfl).1
  refine ⟨⟨lv, ?_, b2, hk, h3.pc hy hH hr hg hat, h4⟩, (Fr.grown hkm (by decide) hg hB).trans (Fr.setM hcur (by decide) hgB)⟩
  rw [List.length_set]
  exact b1
end
/-- 'append(p.nodes[n].Kids, k)' at a step of a region that draws its order. -/
theorem step_kid {ops : Array Oper} {o : Oper} {a : Act} {K : Act → World → Prop} {Q : Exit → Act → World → Prop} {E : Prop} (hgd : o.guard = none) (s x : Operand)
    (ho : o.op = .call { callee := .builtin .append, args := #[s, x], argTypes := #[34, 34] })
    (B : Nat) (w : World) (v : Value) (l : List Nat) (k : Nat) (hs : a.eval s = v) (hown : w.ownsRow B 3 1 v l.length (intCells l)) (hx : a.eval x = .slice (some ⟨w.heap.size, 0, none⟩) 1 1) (hl : l.length ≤ 4294967295) (hB : B ≤ w.heap.size)
    (hK : ∀ kv w', w'.ownsRow B 3 1 kv (l.length + 1) (intCells l ++ [.int .i64 (k : Int)]) → w.grownBy w' v.ownBlock → (kv.ownBlock = v.ownBlock ∨ kv.ownBlock = some (w.heap.size + 1)) → K (a.put o.dst kv) w') :
    if Region.wanted o (yielded ops a.tmps) = true then Oper.wp Tryz.prog o a (w.alloc (.cells #[.int .i64 (k : Int)] 3)) K Q else E := by
  obtain ⟨i0, hi0, hz0, hz1, hz2⟩ := info_parts Tryz.infoInt
  refine step_append_lies _ hgd s x 34 ho B 3 i0 _ 1 8 Tryz.underlying34 hi0 hz0 hz1 hz2 rfl (by decide) v _ (intCells l) hs (World.ownsRow.alloc hown _) ⟨w.heap.size, 0, none⟩ 1 1 [.int .i64 (k : Int)] hx (by rfl) (one_news w #[.int .i64 (k : Int)] _)
    (fun u hu => by rw [List.mem_singleton.1 hu]; rfl) (by decide) (by unfold maxLen; omega) (by omega) (by simp; omega) _ rfl ?_
  intro g cap w' h5 h6 h7 _
  refine hK _ w' h5 (grown_of_alloc h6) ?_
  rcases h7 with h7 | h7
  · exact .inl h7.symm
  · exact .inr (by rw [h7]; simp [Value.ownBlock])
/-- What value and kids leave. -/
def QVE (B P : Nat) (txt : List UInt8) (L : List Tok) (r : JR) (w : World) (e : Ending) (w' : World) : Prop := match r with
  | .ok rest l ns => e = .returned (.bool true) ∧ (∃ k t, rest = L.drop (k + 1) ∧ L[k]? = some t ∧ l = (t.sf, t.st) ∧ QJ B P txt L (k + 1) ns w') ∧ Fr B P w w'
  | .bad a er => e = .returned (.bool false) ∧ QBad B P (qN P w) a er w' ∧ Fr B P w w'
def QVC (w0 : World) (P : Nat) (txt : List UInt8) (L : List Tok) (lv : Nat) : Prop := ∀ (w : World) (k : Nat) (l : Sp) (nodes : List NodeD) (key : Sp) (lev : Int), QJ w0.heap.size P txt L k nodes w → Below w0.heap.size w0 w → nodes.length + (L.drop k).length ≤ 131074 → nodes.length ≤ 4096 → lev = 33 - (lv : Int) →
  Calls Tryz.prog 19 #[.pointer (some ⟨P, 0, none⟩), .int .i64 lev, .agg #[.int .i64 (key.1 : Int), .int .i64 (key.2 : Int)]] w (QVE w0.heap.size P txt L (valueM txt lv (L.drop k) l nodes key) w)
theorem Fr.new {B P b : Nat} {w w1 w2 : World} (h : Fr B P w w1) (hg : w1.grownBy w2 (some b)) (hb : w.heap.size ≤ b) (hB : B ≤ w.heap.size) : Fr B P w w2 :=
  ⟨h.bel.grown hg (Nat.le_trans hB h.sz) (fun k hk => by have e : b = k := Option.some.inj hk; omega), Nat.le_trans h.sz hg.size, fun k o hk hP hs => by
    have h1 := h.blk k o hk hP hs
    rw [hg.block k (cell_it h1) (fun e => by have e : k = b := Option.some.inj e; have := cell_it hk; omega)]
    exact h1⟩
theorem Fr.newN {B P : Nat} {w w1 w2 : World} {r : Option Nat} (h : Fr B P w w1) (hg : w1.grownBy w2 r) (hb : ∀ b, r = some b → w.heap.size ≤ b) (hB : B ≤ w.heap.size) : Fr B P w w2 := by
  cases r with
  | none => exact h.new (b := w1.heap.size) ⟨hg.os, hg.tape, hg.output, hg.size, fun k hk hne => hg.block k hk (by simp)⟩ h.sz hB
  | some b => exact h.new hg (hb b rfl) hB
theorem owns_grown {B size : Nat} {e : TypeId} {A W : World} {v : Value} {n : Nat} {xs : List Value} (h : A.ownsRow B e size v n xs) (hg : A.grownBy W none) : W.ownsRow B e size v n xs :=
  h.kept hg (by cases h : v.ownBlock with
    | none => exact .inl rfl
    | some k => exact .inr (by simp))
/-- A row of texts grows: the parser stays. -/
theorem QZ.grow {B P Bh : Nat} {txt : List UInt8} {L : List Tok} {k : Nat} {z : List ND} {nv : Value} {w w' : World} {v : Value} {hm : List (List UInt8)} (h : QZ B P txt L k z nv w) (hv : HadV Bh w v hm) (hg : w.grownBy w' v.ownBlock) : QZ B P txt L k z nv w' := by
  obtain ⟨lv, h1, h2, hk, h3, h4⟩ := h
  obtain ⟨a1, a2⟩ := qrest_kept h1 h2 hg (fun k hk => by
    obtain ⟨cur, hc⟩ := own_obj hv k hk
    exact ⟨cur, _, hc, by decide, by decide⟩)
  refine ⟨lv, a1, a2, hk, ?_, h4⟩
  cases ho : v.ownBlock with
  | none =>
    rw [ho] at hg
    exact ⟨owns_grown h3.row hg, fun y hy => owns_grown (h3.kids y hy) hg, fun y hy => owns_grown (h3.pcs y hy) hg, h3.ak, h3.ap⟩
  | some b =>
    rw [ho] at hg
    obtain ⟨cur, hc⟩ := own_obj hv b ho
    exact h3.other hc (by decide) (by decide) (by decide) hg
theorem QJ.cast {B P : Nat} {txt : List UInt8} {L : List Tok} {k : Nat} {nodes nodes2 : List NodeD} {w : World} (h : QJ B P txt L k nodes w) (e : nodes = nodes2) : QJ B P txt L k nodes2 w := e ▸ h
/-- No more than 4096 nodes. -/
def Cap (V : VF) : Prop := ∀ rest last nodes key r l ns, V rest last nodes key = .ok r l ns → nodes.length ≤ 4096 → ns.length ≤ 4096
theorem kid_cap {txt : List UInt8} {V : VF} (hV : Cap V) {obj : Bool} {had had' : List (List UInt8)} {rest r : List Tok} {last l : Sp} {nodes ns : List NodeD} (h : kidM txt V obj had rest last nodes = (.ok r l ns, had')) (hn : nodes.length ≤ 4096) : ns.length ≤ 4096 := by
  unfold kidM at h
  split at h
  · injection h with h _; exact hV _ _ _ _ _ _ _ h hn
  · split at h
    · injection h with h _; cases h
    · split at h
      · injection h with h _; cases h
      · split at h
        · injection h with h _; cases h
        · split at h
          · injection h with h _; cases h
          · split at h
            · injection h with h _; cases h
            · injection h with h _
              exact hV _ _ _ _ _ _ _ h hn
theorem loop_cap {txt : List UInt8} {V : VF} (hV : Cap V) {closing : Nat} {obj : Bool} {n : Nat} : ∀ (f : Nat) {had : List (List UInt8)} {rest r : List Tok} {last l : Sp} {nodes ns : List NodeD}, loopM txt V closing obj n f had rest last nodes = .ok r l ns → nodes.length ≤ 4096 → ns.length ≤ 4096
  | 0, _, _, _, _, _, _, _, h, _ => by cases h
  | f + 1, had, rest, r, last, l, nodes, ns, h, hn => by
    unfold loopM at h
    split at h
    · cases h
    · rename_i r1 l1 ns1 had1 hk
      have h1 := kid_cap hV hk hn
      split at h
      · cases h
      · split at h
        · injection h with _ _ h; rw [← h]; unfold addKid; rw [modN_len]; exact h1
        · split at h
          · exact loop_cap hV f h (by unfold addKid; rw [modN_len]; exact h1)
          · cases h
theorem kids_cap {txt : List UInt8} {V : VF} (hV : Cap V) {closing : Nat} {obj : Bool} {n : Nat} {rest r : List Tok} {last l : Sp} {nodes ns : List NodeD} (h : kidsM txt V closing obj n rest last nodes = .ok r l ns) (hn : nodes.length ≤ 4096) : ns.length ≤ 4096 := by
  unfold kidsM at h
  split at h
  · exact loop_cap hV 1 h hn
  · split at h
    · injection h with _ _ h; rw [← h]; exact hn
    · exact loop_cap hV _ h hn
theorem value_cap (txt : List UInt8) : ∀ lv, Cap (valueM txt lv)
  | 0 => fun rest last nodes key r l ns h _ => by
    unfold valueM at h
    split at h <;> cases h
  | lv + 1 => fun rest last nodes key r l ns h hn => by
    have ih := value_cap txt lv
    unfold valueM at h
    split at h
    · cases h
    · rename_i hk
      split at h
      · cases h
      · rename_i hm
        cases rest with
        | nil => exact absurd rfl hk
        | cons t q =>
          simp only [] at h
          obtain ⟨ns0, h1, rfl⟩ := endM_ok h
          have hl : (nodes ++ [(⟨kindOfT t.kind, t.sf, t.st, key, [], []⟩ : NodeD)]).length ≤ 4096 := by
            rw [List.length_append, List.length_singleton]; omega
          unfold setTo
          rw [modN_len]
          split at h1
          · exact kids_cap ih h1 hl
          · split at h1
            · exact kids_cap ih h1 hl
            · injection h1 with _ _ h1; rw [← h1]; exact hl
theorem QZ.offK {B P X i : Nat} {txt : List UInt8} {L : List Tok} {k : Nat} {z : List ND} {nv : Value} {w0 w1 : World} {u : Value} {cs : Array Value} (h : QZ B P txt L k z nv w1) (h0 : NodesAt B z nv w0) (hX : w0.heap.size ≤ X) (hXP : X ≠ P) (hXs : w1.heap[X]? = some (.cells cs 33)) : QZ B P txt L k z nv (w1.setCell ⟨X, i, none⟩ u) := by
  obtain ⟨lv, hb, ht, hk, hn, hB⟩ := h
  have hg := grown_set w1 X i u
  have key : ∀ {e : TypeId} {s n : Nat} {v : Value} {xs ys : List Value}, w0.ownsRow B e s v n xs → w1.ownsRow B e s v n ys → (w1.setCell ⟨X, i, none⟩ u).ownsRow B e s v n ys := fun {e s n v xs ys} h1 h2 =>
    h2.kept hg (by cases ho : v.ownBlock with
      | none => exact .inl rfl
      | some b =>
        right
        intro hbx
        have e2 : b = X := Option.some.inj hbx
        have := (World.ownsRow.lt h1 b ho).2
        omega)
  refine ⟨lv, hb.off hXP, ht.same (fun g cur hg2 => ?_), hk, ⟨key h0.row hn.row, fun y hy => key (h0.kids y hy) (hn.kids y hy), fun y hy => key (h0.pcs y hy) (hn.pcs y hy), hn.ak, hn.ap⟩, hB⟩
  refine Below.heap_setCell w1 ⟨X, i, none⟩ u g (fun e => ?_)
  have e2 : g = X := e
  subst e2
  rw [hXs] at hg2
  injection hg2 with hg2
  injection hg2 with _ hg2
  exact absurd hg2 (by decide)
theorem Tryz.infoStrQ : (Tryz.prog.info? 9).map (fun i => (i.zero, i.size, i.bytes)) = some (some (.string ⟨#[]⟩), 1, 16) := by kernel_rfl
/-- 'append(had, text)'. -/
theorem wpList_had {ops : Array Oper} {rest : List Oper} {o : Oper} {a : Act} {Q : Exit → Act → World → Prop} (hgd : o.guard = none) (s x : Operand)
    (ho : o.op = .call { callee := .builtin .append, args := #[s, x], argTypes := #[78, 78] })
    (B : Nat) (w : World) (v : Value) (l : List (List UInt8)) (k : List UInt8) (hs : a.eval s = v) (hown : HadV B w v l) (hx : a.eval x = .slice (some ⟨w.heap.size, 0, none⟩) 1 1) (hl : l.length ≤ 4294967295) (hB : B ≤ w.heap.size)
    (hK : ∀ kv w', HadV B w' kv (l ++ [k]) → w.grownBy w' v.ownBlock → wpList Tryz.prog ops Q rest (a.put o.dst kv) w') :
    wpList Tryz.prog ops Q (o :: rest) a (w.alloc (.cells #[.string (bs k)] 9)) := by
  obtain ⟨i0, hi0, hz0, hz1, hz2⟩ := info_parts Tryz.infoStrQ
  refine wpList_append_lies _ hgd s x 78 ho B 9 i0 _ 1 16 Tryz.underlying78 hi0 hz0 hz1 hz2 rfl (by decide) v _ (strCells l) hs (World.ownsRow.alloc hown _) ⟨w.heap.size, 0, none⟩ 1 1 [.string (bs k)] hx (by rfl) (one_news w #[.string (bs k)] _)
    (fun u hu => by rw [List.mem_singleton.1 hu]; rfl) (by decide) (by unfold maxLen; omega) (by omega) (by simp; omega) _ rfl ?_
  intro g cap w' h5 h6 h7 _
  refine hK _ w' ?_ (grown_of_alloc h6)
  unfold HadV strCells
  rw [List.length_append, List.length_singleton, List.map_append]
  exact h5
theorem keyR_bad {txt : List UInt8} {V : VF} {hm : List (List UInt8)} {rest : List Tok} {a : Nat} {er : Int} {ls : Sp} {ns : List NodeD} (h : keyR txt hm rest = .bad a er) : ∃ h', kidM txt V true hm.reverse rest ls ns = (.bad a er, h') := by
  unfold kidM
  rw [if_neg (by decide)]
  cases rest with
  | nil => injection h with h1 h2; subst h1 h2; exact ⟨_, rfl⟩
  | cons t r =>
    unfold keyR at h
    simp only [] at h ⊢
    by_cases h8 : t.kind ≠ 8
    · rw [if_pos h8] at h ⊢
      injection h with h1 h2; subst h1 h2; exact ⟨_, rfl⟩
    · rw [if_neg h8] at h ⊢
      by_cases hin : (unqL ((txt.drop t.sf).take (t.st - t.sf))).1 ∈ hm
      · rw [if_pos hin] at h
        rw [if_pos (List.mem_reverse.2 hin)]
        injection h with h1 h2; subst h1 h2; exact ⟨_, rfl⟩
      · rw [if_neg hin] at h
        rw [if_neg (fun h => hin (List.mem_reverse.1 h))]
        cases r with
        | nil => injection h with h1 h2; subst h1 h2; exact ⟨_, rfl⟩
        | cons c r2 =>
          simp only [] at h ⊢
          by_cases h7 : c.kind ≠ 7
          · rw [if_pos h7] at h ⊢
            injection h with h1 h2; subst h1 h2; exact ⟨_, rfl⟩
          · rw [if_neg h7] at h; cases h
theorem keyR_ok {txt : List UInt8} {V : VF} {hm : List (List UInt8)} {rest : List Tok} {key : List UInt8} {t : Tok} {ls : Sp} {ns : List NodeD} (h : keyR txt hm rest = .ok key t) : ∃ c r2, rest = t :: c :: r2 ∧ kidM txt V true hm.reverse rest ls ns = (V r2 (c.sf, c.st) ns (t.sf, t.st), key :: hm.reverse) := by
  unfold kidM
  rw [if_neg (by decide)]
  cases rest with
  | nil => cases h
  | cons t' r =>
    unfold keyR at h
    simp only [] at h ⊢
    by_cases h8 : t'.kind ≠ 8
    · rw [if_pos h8] at h; cases h
    · rw [if_neg h8] at h ⊢
      by_cases hin : (unqL ((txt.drop t'.sf).take (t'.st - t'.sf))).1 ∈ hm
      · rw [if_pos hin] at h; cases h
      · rw [if_neg hin] at h
        rw [if_neg (fun h => hin (List.mem_reverse.1 h))]
        cases r with
        | nil => cases h
        | cons c r2 =>
          simp only [] at h ⊢
          by_cases h7 : c.kind ≠ 7
          · rw [if_pos h7] at h; cases h
          · rw [if_neg h7] at h ⊢
            injection h with h1 h2
            subst h1 h2
            exact ⟨c, r2, rfl, rfl⟩
end Go.Proofs.YtmghlaajocgoaaaGreatDoor
