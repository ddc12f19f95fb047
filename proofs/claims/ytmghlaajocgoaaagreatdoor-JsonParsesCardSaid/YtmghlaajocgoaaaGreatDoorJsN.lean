import Derived.Test.YtmghlaajocgoaaaGreatDoorJsM
/-! A document, to be read. -/
namespace Go.Proofs.YtmghlaajocgoaaaGreatDoor
set_option linter.unusedSimpArgs false
set_option linter.unusedVariables false
open Go.RowKit Go.Maps Go.WideMaps
open Go.Lib hiding intOf
/-- Where numbers lie, and spans. -/
def IntsR (w : World) (v : Value) (l : List Nat) : Prop := ∃ p c, v = .slice p l.length c ∧ ∀ (j k : Nat), l[j]? = some k → ∃ g, p = some ⟨g, 0, none⟩ ∧ w.cell? ⟨g, j, none⟩ = some (.int .i64 (k : Int))
def SpansR (w : World) (v : Value) (l : List Sp) : Prop := ∃ p c, v = .slice p l.length c ∧ ∀ (j : Nat) (k : Sp), l[j]? = some k → ∃ g, p = some ⟨g, 0, none⟩ ∧ w.cell? ⟨g, j * 2, none⟩ = some (.int .i64 (k.1 : Int)) ∧ w.cell? ⟨g, j * 2 + 1, none⟩ = some (.int .i64 (k.2 : Int))
/-- A node's cells. -/
def NodeR (w : World) (g i : Nat) (x : NodeD) : Prop := ∃ kv pv, w.cell? ⟨g, i * 7, none⟩ = some (.int .i64 (x.kind : Int)) ∧ w.cell? ⟨g, i * 7 + 1, none⟩ = some (.int .i64 (x.sf : Int)) ∧ w.cell? ⟨g, i * 7 + 2, none⟩ = some (.int .i64 (x.st : Int)) ∧
  w.cell? ⟨g, i * 7 + 3, none⟩ = some (.int .i64 (x.key.1 : Int)) ∧ w.cell? ⟨g, i * 7 + 4, none⟩ = some (.int .i64 (x.key.2 : Int)) ∧ w.cell? ⟨g, i * 7 + 5, none⟩ = some kv ∧ w.cell? ⟨g, i * 7 + 6, none⟩ = some pv ∧ IntsR w kv x.kids ∧ SpansR w pv x.pcs
def DocR (w : World) (nv : Value) (nodes : List NodeD) : Prop := ∃ p c, nv = .slice p nodes.length c ∧ ∀ i x, nodes[i]? = some x → ∃ g, p = some ⟨g, 0, none⟩ ∧ NodeR w g i x
theorem cell_keep {w w' : World} {a : Addr} {u : Value} (h : w.cell? a = some u) (hb : Below w.heap.size w w') : w'.cell? a = some u := by
  rw [hb.cell (World.block_lt_of_cell? w a h)]; exact h
theorem IntsR.keep {w w' : World} {v : Value} {l : List Nat} (h : IntsR w v l) (hb : Below w.heap.size w w') : IntsR w' v l := by
  obtain ⟨p, c, h1, h2⟩ := h
  exact ⟨p, c, h1, fun j k hj => by obtain ⟨g, e, hc⟩ := h2 j k hj; exact ⟨g, e, cell_keep hc hb⟩⟩
theorem SpansR.keep {w w' : World} {v : Value} {l : List Sp} (h : SpansR w v l) (hb : Below w.heap.size w w') : SpansR w' v l := by
  obtain ⟨p, c, h1, h2⟩ := h
  exact ⟨p, c, h1, fun j k hj => by obtain ⟨g, e, hc, hd⟩ := h2 j k hj; exact ⟨g, e, cell_keep hc hb, cell_keep hd hb⟩⟩
theorem NodeR.keep {w w' : World} {g i : Nat} {x : NodeD} (h : NodeR w g i x) (hb : Below w.heap.size w w') : NodeR w' g i x := by
  obtain ⟨kv, pv, h0, h1, h2, h3, h4, h5, h6, h7, h8⟩ := h
  exact ⟨kv, pv, cell_keep h0 hb, cell_keep h1 hb, cell_keep h2 hb, cell_keep h3 hb, cell_keep h4 hb, cell_keep h5 hb, cell_keep h6 hb, h7.keep hb, h8.keep hb⟩
theorem DocR.keep {w w' : World} {nv : Value} {nodes : List NodeD} (h : DocR w nv nodes) (hb : Below w.heap.size w w') : DocR w' nv nodes := by
  obtain ⟨p, c, h1, h2⟩ := h
  exact ⟨p, c, h1, fun i x hx => by obtain ⟨g, e, hn⟩ := h2 i x hx; exact ⟨g, e, hn.keep hb⟩⟩
theorem spCells_at : ∀ (l : List Sp) (j : Nat) (k : Sp), l[j]? = some k → (spCells l)[j * 2]? = some (.int .i64 (k.1 : Int)) ∧ (spCells l)[j * 2 + 1]? = some (.int .i64 (k.2 : Int))
  | [], j, k, h => by simp at h
  | u :: l, 0, k, h => by
    obtain rfl : u = k := by simpa using h
    exact ⟨rfl, rfl⟩
  | u :: l, j + 1, k, h => by
    rw [List.getElem?_cons_succ] at h
    have := spCells_at l j k h
    rw [show (j + 1) * 2 = j * 2 + 2 by omega]
    exact this
theorem own_read {w : World} {B : Nat} {e : TypeId} {s : Nat} {v : Value} {n : Nat} {xs : List Value} (h : w.ownsRow B e s v n xs) : ∃ p c, v = .slice p n c ∧ (n ≠ 0 → ∃ g, p = some ⟨g, 0, none⟩ ∧ ∀ i u, xs[i]? = some u → w.cell? ⟨g, i, none⟩ = some u) := by
  rcases h.2 with ⟨rfl, rfl⟩ | ⟨g, cap, cur, rfl, _⟩
  · exact ⟨none, 0, rfl, fun h => absurd rfl h⟩
  · refine ⟨_, _, rfl, fun _ => ⟨g, rfl, fun i u hi => ?_⟩⟩
    have hc := h.cells (g := g) rfl
    have ha : ((⟨g, 0, none⟩ : Addr).add i) = ⟨g, i, none⟩ := by unfold Addr.add; split <;> simp_all
    rw [← ha]
    exact hc _ _ hi
theorem ints_read {w : World} {B : Nat} {v : Value} {l : List Nat} (h : w.ownsRow B 3 1 v l.length (intCells l)) : IntsR w v l := by
  obtain ⟨p, c, h1, h2⟩ := own_read h
  refine ⟨p, c, h1, fun j k hj => ?_⟩
  have hj1 := (List.getElem?_eq_some_iff.1 hj).1
  obtain ⟨g, e, hc⟩ := h2 (by omega)
  exact ⟨g, e, hc j _ (by unfold intCells; rw [List.getElem?_map, hj]; rfl)⟩
theorem spans_read {w : World} {B : Nat} {v : Value} {l : List Sp} (h : w.ownsRow B 33 2 v l.length (spCells l)) : SpansR w v l := by
  obtain ⟨p, c, h1, h2⟩ := own_read h
  refine ⟨p, c, h1, fun j k hj => ?_⟩
  have hj1 := (List.getElem?_eq_some_iff.1 hj).1
  obtain ⟨g, e, hc⟩ := h2 (by omega)
  obtain ⟨a, b⟩ := spCells_at l j k hj
  exact ⟨g, e, hc _ _ a, hc _ _ b⟩
theorem DocR.of {B : Nat} {w : World} {z : List ND} {nv : Value} (h : NodesAt B z nv w) : DocR w nv (z.map (·.1)) := by
  obtain ⟨p, c, h1, h2⟩ := own_read h.row
  refine ⟨p, c, by rw [List.length_map]; exact h1, fun i x hx => ?_⟩
  rw [List.getElem?_map] at hx
  obtain ⟨y, hy, rfl⟩ := Option.map_eq_some_iff.1 hx
  have hj1 := (List.getElem?_eq_some_iff.1 hy).1
  obtain ⟨g, e, hc⟩ := h2 (by omega)
  have hm := List.mem_of_getElem? hy
  have ha : ∀ k, k < 7 → ∀ u, (ndCells y)[k]? = some u → w.cell? ⟨g, i * 7 + k, none⟩ = some u := fun k hk u hu => hc _ _ (by rw [nodeCells_at z i y hy k hk]; exact hu)
  exact ⟨g, e, y.2.1, y.2.2, ha 0 (by omega) _ rfl, ha 1 (by omega) _ rfl, ha 2 (by omega) _ rfl, ha 3 (by omega) _ rfl, ha 4 (by omega) _ rfl, ha 5 (by omega) _ rfl, ha 6 (by omega) _ rfl, ints_read (h.kids y hm), spans_read (h.pcs y hm)⟩
def NodesR (w : World) (p : Option Addr) (nodes : List NodeD) : Prop := ∀ (i : Nat) (x : NodeD), nodes[i]? = some x → ∃ g, p = some ⟨g, 0, none⟩ ∧ NodeR w g i x
theorem NodesR.keep {w w' : World} {p : Option Addr} {nodes : List NodeD} (h : NodesR w p nodes) (hb : Below w.heap.size w w') : NodesR w' p nodes := fun i x hx => by
  obtain ⟨g, e, hn⟩ := h i x hx
  exact ⟨g, e, hn.keep hb⟩
/-- What Parse hands back, to be read. -/
def ParseR (l : List UInt8) (r : List NodeD × Int × Int) (w : World) (e : Ending) (w' : World) : Prop :=
  ∃ p c, e = .returned (.tuple #[.agg #[.string (bs (docT l r.1)), .slice p r.1.length c], .int .i64 r.2.1, .int .i64 r.2.2]) ∧ NodesR w' p r.1 ∧ Below w.heap.size w w'
theorem parse_read (l : List UInt8) (r : List NodeD × Int × Int) (hr : parseJ l = r) (w : World) (hs : l.length ≤ 4611686018427387904) (hV : SVar w) (hT : Tabs w) :
    Calls Tryz.prog 11 #[.string (bs l)] w (ParseR l r w) := by
  subst hr
  refine (jparse_any l w hs hV hT).mono fun e w' h => ?_
  obtain ⟨v, he, ⟨z, nv, hv, hz, hn⟩, hb⟩ := h
  subst hv
  obtain ⟨p, c, hnv, hp⟩ := DocR.of hn
  rw [hz] at hnv hp
  subst hnv
  exact ⟨p, c, he, hp, hb⟩
end Go.Proofs.YtmghlaajocgoaaaGreatDoor
/-! The laws' small cases. -/
namespace Go.Proofs.YtmghlaajocgoaaaGreatDoor
set_option linter.unusedSimpArgs false
set_option linter.unusedVariables false
open Go.RowKit Go.Maps Go.WideMaps
open Go.Lib hiding intOf
theorem small1 : parseJ [91, 49, 44, 32, 123, 34, 97, 34, 58, 50, 125, 93] = ([⟨5, 0, 12, (0, 0), [1, 2], [(1, 2), (3, 11)]⟩, ⟨3, 1, 2, (0, 0), [], []⟩, ⟨6, 4, 11, (0, 0), [3], [(5, 10)]⟩, ⟨3, 9, 10, (5, 8), [], []⟩], 12, 0) := by kernel_rfl
theorem small2 : parseJ [123, 34, 97, 34, 58, 49, 44, 34, 92, 117, 48, 48, 54, 49, 34, 58, 50, 125] = ([], 7, 7) := by kernel_rfl
theorem small3 : parseJ [91, 49, 44, 93] = ([], 3, 2) := by kernel_rfl
set_option maxRecDepth 100000 in
set_option maxHeartbeats 8000000 in
theorem jsmall_any (w : World) (hV : SVar w) (hT : Tabs w) :
    Calls Tryz.prog 9 #[] w fun e w' => e = .returned (.bool true) ∧ Below w.heap.size w w' := by
  have C1 : Hid (∀ w', Below w.heap.size w w' → Calls Tryz.prog 11 #[.string ⟨#[91, 49, 44, 32, 123, 34, 97, 34, 58, 50, 125, 93]⟩] w' (ParseR [91, 49, 44, 32, 123, 34, 97, 34, 58, 50, 125, 93] _ w')) := Lib.hid (fun w' hb => parse_read _ _ small1 w' (by decide) (hV.keep hb) (hT.keep hb))
  have C2 : Hid (∀ w', Below w.heap.size w w' → Calls Tryz.prog 11 #[.string ⟨#[123, 34, 97, 34, 58, 49, 44, 34, 92, 117, 48, 48, 54, 49, 34, 58, 50, 125]⟩] w' (ParseR _ _ w')) := Lib.hid (fun w' hb => parse_read _ _ small2 w' (by decide) (hV.keep hb) (hT.keep hb))
  have C3 : Hid (∀ w', Below w.heap.size w w' → Calls Tryz.prog 11 #[.string ⟨#[91, 49, 44, 93]⟩] w' (ParseR _ _ w')) := Lib.hid (fun w' hb => parse_read _ _ small3 w' (by decide) (hV.keep hb) (hT.keep hb))
  clear hV hT
  go_enter Tryz.func9, Tryz.ntmps9
  go_wp2_with fail
  refine (C1.out _ (Below.refl _ _)).mono ?_
  rintro e w1 ⟨p, c, rfl, hd, hb⟩
  obtain ⟨t1, ht1⟩ : ∃ t, docT [91, 49, 44, 32, 123, 34, 97, 34, 58, 50, 125, 93] [⟨5, 0, 12, (0, 0), [1, 2], [(1, 2), (3, 11)]⟩, ⟨3, 1, 2, (0, 0), [], []⟩, ⟨6, 4, 11, (0, 0), [3], [(5, 10)]⟩, ⟨3, 9, 10, (5, 8), [], []⟩] = t := ⟨_, rfl⟩
  rw [ht1]
  simp only [List.length_cons, List.length_nil, Nat.reduceAdd]
  have HB1 := Lib.hid hb
  have HD1 := Lib.hid hd
  clear hb hd C1 ht1
  go_wp2_with fail
  obtain ⟨W1, hW1⟩ : ∃ W, w1.alloc (.cells #[.string (bs t1), .slice p 4 c] 25) = W := ⟨_, rfl⟩
  have b1 : Below w1.heap.size w1 W1 := by rw [← hW1]; exact below_alloc1 _ _
  have hD : W1.heap[w1.heap.size]? = some (.cells #[.string (bs t1), .slice p 4 c] 25) := by rw [← hW1]; exact heap_alloc_new _ _
  have HBW1 : Hid (Below w.heap.size w W1) := Lib.hid (HB1.out.trans (b1.mono HB1.out.size))
  have HN1 := Lib.hid (HD1.out.keep b1)
  have HDo := Lib.hid hD
  rw [hW1]
  clear b1 hD hW1
  refine (C2.out _ HBW1.out).mono ?_
  rintro e w2 ⟨p2, c2, rfl, -, hb2⟩
  have HB2 := Lib.hid hb2
  clear hb2 C2
  simp only [List.length_nil]
  go_wp2_with fail
  obtain ⟨W2, hW2⟩ : ∃ W, w2.alloc (.cells #[.string (bs (docT [123, 34, 97, 34, 58, 49, 44, 34, 92, 117, 48, 48, 54, 49, 34, 58, 50, 125] [])), .slice p2 0 c2] 25) = W := ⟨_, rfl⟩
  have HBW2 : Hid (Below W1.heap.size W1 W2) := Lib.hid (HB2.out.trans ((by rw [← hW2]; exact below_alloc1 _ _ : Below w2.heap.size w2 W2).mono HB2.out.size))
  rw [hW2]
  clear hW2
  refine (C3.out _ (HBW1.out.trans (HBW2.out.mono HBW1.out.size))).mono ?_
  rintro e w3 ⟨p3, c3, rfl, -, hb3⟩
  have HB3 := Lib.hid hb3
  clear hb3 C3
  simp only [List.length_nil]
  go_upto_region 4 with fail
  obtain ⟨W3, hW3⟩ : ∃ W, w3.alloc (.cells #[.string (bs (docT [91, 49, 44, 93] [])), .slice p3 0 c3] 25) = W := ⟨_, rfl⟩
  have b3 : Below W1.heap.size W1 W3 := HBW2.out.trans ((HB3.out.trans ((by rw [← hW3]; exact below_alloc1 _ _ : Below w3.heap.size w3 W3).mono HB3.out.size)).mono HBW2.out.size)
  rw [hW3]
  have HBW3 : Hid (Below w.heap.size w W3) := Lib.hid (HBW1.out.trans (b3.mono HBW1.out.size))
  have hD3 : W3.heap[w1.heap.size]? = some (.cells #[.string (bs t1), .slice p 4 c] 25) := (b3.block _ (cell_it HDo.out)).trans HDo.out
  obtain ⟨x0, x1⟩ := cells_at2 hD3
  have hn := HN1.out.keep b3
  obtain ⟨g, rfl, n0⟩ := hn 0 _ rfl
  obtain ⟨g2, e2, n2⟩ := hn 2 _ rfl
  obtain rfl : g = g2 := by injection e2 with e2; injection e2
  obtain ⟨g3, e3, n3⟩ := hn 3 _ rfl
  obtain rfl : g = g3 := by injection e3 with e3; injection e3
  obtain ⟨kv, pv, a0, a1, a2, a3, a4, a5, a6, ⟨pk, ck, rfl, hk⟩, ⟨pp, cp, rfl, hp⟩⟩ := n0
  obtain ⟨gk, rfl, k1⟩ := hk 1 2 rfl
  obtain ⟨gp, rfl, s0, s1⟩ := hp 1 (3, 11) rfl
  obtain ⟨kv2, pv2, _, _, _, _, _, b5, _, ⟨pk2, ck2, rfl, hk2⟩, _⟩ := n2
  obtain ⟨gk2, rfl, k2⟩ := hk2 0 3 rfl
  obtain ⟨_, _, _, _, _, d3, d4, _⟩ := n3
  simp only [Nat.zero_mul, Nat.zero_add, Nat.reduceMul, Nat.reduceAdd, List.length_cons, List.length_nil] at a0 a1 a2 a3 a4 a5 a6 k1 s0 s1 b5 k2 d3 d4
  have l0 : g < W3.heap.size := World.block_lt_of_cell? W3 _ a0
  have l1 : gk < W3.heap.size := World.block_lt_of_cell? W3 _ k1
  have l2 : gp < W3.heap.size := World.block_lt_of_cell? W3 _ s0
  have l3 : gk2 < W3.heap.size := World.block_lt_of_cell? W3 _ k2
  have l4 : w1.heap.size < W3.heap.size := cell_it hD3
  clear hn hk hp hk2 hD3 b3 hW3 e2 e3
  go_wp2_with fail
  go_ret
  exact ⟨rfl, HBW3.out.alloc HBW3.out.size _⟩
end Go.Proofs.YtmghlaajocgoaaaGreatDoor
