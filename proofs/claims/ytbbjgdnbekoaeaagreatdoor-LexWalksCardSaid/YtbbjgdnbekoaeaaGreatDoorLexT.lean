import Derived.Test.YtbbjgdnbekoaeaaGreatDoorLexR3
/-! scarfref04.Text; a row of tokens that may be written; the walk of the law LexTokens. -/
namespace Go.Proofs.YtbbjgdnbekoaeaaGreatDoor
set_option linter.unusedSimpArgs false
set_option linter.unusedVariables false
open Go.RowKit
open Go.Lib hiding intOf

set_option maxHeartbeats 1000000 in
theorem refText_any (l : List UInt8) (k a b : Int) (w : World) (hs : l.length ≤ 4611686018427387904) :
    Calls Tryz.prog 15 #[.string (bs l), .agg #[.int .i64 k, .int .i64 a, .int .i64 b]] w fun e w' => e = .returned (.tuple #[.string (bs (spanL l a b).1), .bool (spanL l a b).2]) ∧ Below w.heap.size w w' := by
  have sl := bs_size l
  obtain ⟨R, hR⟩ : ∃ R, spanL l a b = R := ⟨_, rfl⟩
  rw [hR]
  unfold spanL at hR
  by_cases h1 : a < 0
  · rw [if_pos (.inl h1)] at hR
    subst hR
    go_enter Tryz.func15, Tryz.ntmps15
    go_wp2_with fail
    go_ret2
    exact ⟨rfl, below_alloc1 _ _⟩
  by_cases h2 : b < a
  · rw [if_pos (.inr (.inl h2))] at hR
    subst hR
    go_enter Tryz.func15, Tryz.ntmps15
    go_wp2_with fail
    go_ret2
    exact ⟨rfl, below_alloc1 _ _⟩
  by_cases h3 : (l.length : Int) < b
  · rw [if_pos (.inr (.inr h3))] at hR
    subst hR
    go_enter Tryz.func15, Tryz.ntmps15
    go_wp2_with fail
    go_ret2
    exact ⟨rfl, below_alloc1 _ _⟩
  rw [if_neg (by omega)] at hR
  obtain ⟨x, rfl⟩ : ∃ x : Nat, a = x := ⟨a.toNat, by omega⟩
  obtain ⟨y, rfl⟩ : ∃ y : Nat, b = y := ⟨b.toNat, by omega⟩
  rw [Int.toNat_natCast, Int.toNat_natCast] at hR
  have hex : (bs l).extract x y = bs ((l.drop x).take (y - x)) := by rw [bs_extract, bs_data]
  have d2 : decide (y < x) = false := decide_eq_false (by omega)
  have d3 : decide (l.length < y) = false := decide_eq_false (by omega)
  have hxy : (x : Int) ≤ (y : Int) := by omega
  have hyl : (y : Int) ≤ (l.length : Int) := by omega
  subst hR
  clear h1 h2 h3
  go_enter Tryz.func15, Tryz.ntmps15
  go_wp2_with fail
  go_ret2
  exact ⟨rfl, below_alloc1 _ _⟩
/-- The cells of a row of tokens that may be written. -/
def RowB (W : World) (g n : Nat) : Prop := ∃ cur : Array Value, W.heap[g]? = some (.cells cur 34 (0, 0)) ∧ ∀ j, j < n * 3 → ∃ x : Int, cur[j]? = some (.int .i64 x)
theorem RowB.cell {W : World} {g n : Nat} (h : RowB W g n) (j : Nat) (hj : j < n * 3) : (∃ x : Int, W.cell? ⟨g, j, none⟩ = some (.int .i64 x)) ∧ W.frozen? ⟨g, j, none⟩ = false := by
  obtain ⟨cur, h1, h2⟩ := h
  obtain ⟨x, hx⟩ := h2 j hj
  exact ⟨⟨x, by simp [World.cell?, h1, hx]⟩, by simp [World.frozen?, h1]⟩
theorem RowB.keep {W W' : World} {g n : Nat} (h : RowB W g n) (hb : Below W.heap.size W W') : RowB W' g n := by
  obtain ⟨cur, h1, h2⟩ := h
  exact ⟨cur, (hb.block g (cell_it h1)).trans h1, h2⟩
theorem RowB.set {W : World} {g n : Nat} (h : RowB W g n) (j : Nat) (x : Int) : RowB (W.setCell ⟨g, j, none⟩ (.int .i64 x)) g n := by
  obtain ⟨cur, h1, h2⟩ := h
  refine ⟨cur.setIfInBounds j (.int .i64 x), by simp [World.setCell, Array.getElem?_modify, h1], fun i hi => ?_⟩
  rw [Array.getElem?_setIfInBounds]
  obtain ⟨y, hy⟩ := h2 i hi
  by_cases e : j = i
  · subst e
    have hlt := (Array.getElem?_eq_some_iff.1 hy).1
    exact ⟨x, by rw [if_pos rfl, if_pos hlt]⟩
  · exact ⟨y, by rw [if_neg e]; exact hy⟩
theorem tokCells_int (ts : List Tok) (j : Nat) (u : Value) (h : (tokCells ts)[j]? = some u) : ∃ x : Int, u = .int .i64 x := by
  have hm := List.mem_of_getElem? h
  unfold tokCells at hm
  obtain ⟨t, _, h⟩ := List.mem_flatMap.1 hm
  simp only [List.mem_cons, List.not_mem_nil, or_false] at h
  rcases h with rfl | rfl | rfl <;> exact ⟨_, rfl⟩
theorem OwnsToks.rowB {B : Nat} {w : World} {v : Value} {ts : List Tok} (h : OwnsToks B w v ts) (hne : ts ≠ []) : ∃ g c, v = .slice (some ⟨g, 0, none⟩) ts.length c ∧ B ≤ g ∧ g < w.heap.size ∧ RowB w g ts.length := by
  have hl : 0 < ts.length := List.length_pos_iff.2 hne
  rcases h.2 with ⟨_, h0⟩ | ⟨g, cap, cur, rfl, hb, hg, hc, _, hs, ht⟩
  · omega
  · refine ⟨g, cap, rfl, hb, (Array.getElem?_eq_some_iff.1 hg).1, cur, hg, fun j hj => ?_⟩
    have hlt : j < (tokCells ts).length := by rw [tokCells_len]; exact hj
    obtain ⟨x, hx⟩ := tokCells_int ts j _ (List.getElem?_eq_getElem hlt)
    refine ⟨x, ?_⟩
    have e : (cur.toList.take (ts.length * 3))[j]? = (tokCells ts)[j]? := by rw [ht]
    rw [List.getElem?_take, if_pos hj, List.getElem?_eq_getElem hlt, hx, Array.getElem?_toList] at e
    exact e
theorem TokBox.set {W : World} {X g : Nat} {k a b : Int} (h : TokBox W X k a b) (hne : X ≠ g) (j : Nat) (u : Value) : TokBox (W.setCell ⟨g, j, none⟩ u) X k a b :=
  (Below.heap_setCell W ⟨g, j, none⟩ u X hne).trans h
/-- The row that Tokens hands back: it may be written, and lies behind block X. -/
def TRow (W : World) (X n : Nat) (p : Option Addr) : Prop := n = 0 ∨ ∃ g, p = some ⟨g, 0, none⟩ ∧ X < g ∧ RowB W g n
theorem TRow.keep {W W' : World} {X n : Nat} {p : Option Addr} (h : TRow W X n p) (hb : Below W.heap.size W W') : TRow W' X n p := by
  rcases h with h | ⟨g, h1, h2, h3⟩
  · exact .inl h
  · exact .inr ⟨g, h1, h2, h3.keep hb⟩
theorem OwnsToks.tRow {B X : Nat} {w : World} {v : Value} {ts : List Tok} (h : OwnsToks B w v ts) (h0 : ts = [] → v = .slice none 0 0) (hX : X < B) : ∃ p c, v = .slice p ts.length c ∧ TRow w X ts.length p := by
  by_cases hne : ts = []
  · exact ⟨none, 0, by rw [h0 hne, hne]; rfl, .inl (by rw [hne]; rfl)⟩
  · obtain ⟨g, c, h1, h2, h3, h4⟩ := h.rowB hne
    exact ⟨_, c, h1, .inr ⟨g, rfl, by omega, h4⟩⟩
theorem OwnsToks.toV0 {B : Nat} {w : World} {v : Value} {ts : List Tok} (h : OwnsToks B w v ts) (h0 : ts = [] → v = .slice none 0 0) : ToksV w v ts := by
  by_cases hne : ts = []
  · exact .inl ⟨hne, h0 hne⟩
  · exact h.toV hne
set_option maxRecDepth 100000 in
set_option maxHeartbeats 8000000 in
theorem lexTokens_any (s : ByteArray) (k a b : Int) (w : World) (hs : s.size ≤ 140737488351232) (hV : SVar w) (hT : Tabs w) :
    Calls Tryz.prog 4 #[.string s, .agg #[.int .i64 k, .int .i64 a, .int .i64 b]] w fun e w' => e = .returned (.bool true) ∧ Below w.heap.size w w' := by
  have C0 := Lib.hid (fun w hV hT => lsmall_any w hV hT)
  have HV := Lib.hid hV; have HT := Lib.hid hT; clear hV hT
  obtain ⟨l, rfl⟩ : ∃ l, s = bs l := ⟨s.data.toList, (bs_of s).symm⟩
  have sl := bs_size l
  by_cases hmid : 2048 < l.length ∧ l.length ≤ 65536
  · have d1 : decide (2048 < l.length) = true := decide_eq_true hmid.1
    have d2 : decide (l.length ≤ 65536) = true := decide_eq_true hmid.2
    have d3 : decide (2048 < (l.length : Int)) = true := decide_eq_true (by omega)
    have d4 : decide ((l.length : Int) ≤ 65536) = true := decide_eq_true (by omega)
    clear hmid
    go_enter Tryz.func4, Tryz.ntmps4
    go_wp2_with fail
    have hB0 : Below w.heap.size w (w.alloc (.cells #[.int .i64 k, .int .i64 a, .int .i64 b] 34)) := below_alloc1 w _
    with_reducible refine (C0.out _ (HV.out.keep hB0) (HT.out.keep hB0)).mono ?_
    rintro e w1 ⟨rfl, hb⟩
    have HB1 := Lib.hid (below_of_new hB0 hb); clear hb hB0
    go_wp2_with fail
    go_ret
    exact ⟨rfl, HB1.out⟩
  have hd : (decide (2048 < l.length) = true ∧ decide (l.length ≤ 65536) = false ∧ decide (2048 < (l.length : Int)) = true ∧ decide ((l.length : Int) ≤ 65536) = false) ∨ (decide (2048 < l.length) = false ∧ decide (2048 < (l.length : Int)) = false) := by
    by_cases h : 2048 < l.length
    · left; exact ⟨decide_eq_true h, decide_eq_false (by omega), decide_eq_true (by omega), decide_eq_false (by omega)⟩
    · right; exact ⟨decide_eq_false h, decide_eq_false (by omega)⟩
  clear hmid
  obtain ⟨R, hR⟩ : ∃ R, toksL l = R := ⟨_, rfl⟩
  have CT := Lib.hid (fun w hV hT => tokens_any l w (by omega) hV hT)
  have CR := Lib.hid (fun w => refTokens_any l w (by omega))
  have hlen := toks_len l
  rw [hR] at CT CR hlen
  obtain ⟨ts, n, er⟩ := R
  simp only [] at hlen
  obtain ⟨SP, hSP⟩ : ∃ S, spanL l a b = S := ⟨_, rfl⟩
  have CX := Lib.hid (fun w => ltext_any l k a b w (by omega))
  have CY := Lib.hid (fun w => refText_any l k a b w (by omega))
  rw [hSP] at CX CY
  obtain ⟨U, is⟩ := SP
  simp only [] at CX CY
  have CS := Lib.hid (fun v1 v2 w h1 h2 => sameT_yes ts v1 v2 w h1 h2 (by omega))
  clear hR hSP hs
  rcases hd with ⟨d1, d2, d3, d4⟩ | ⟨d1, d3⟩
  all_goals (
    go_enter Tryz.func4, Tryz.ntmps4
    go_wp2_with fail
    have hB0 : Below w.heap.size w (w.alloc (.cells #[.int .i64 k, .int .i64 a, .int .i64 b] 34)) := below_alloc1 w _
    have hX0 : TokBox (w.alloc (.cells #[.int .i64 k, .int .i64 a, .int .i64 b] 34)) w.heap.size k a b := heap_alloc_new w _
    have hz0 : w.heap.size < (w.alloc (.cells #[.int .i64 k, .int .i64 a, .int .i64 b] 34)).heap.size := by simp
    obtain ⟨W0, hW0⟩ : ∃ W, w.alloc (.cells #[.int .i64 k, .int .i64 a, .int .i64 b] 34) = W := ⟨_, rfl⟩
    rw [hW0] at hB0 hX0 hz0 ⊢
    clear hW0
    with_reducible refine (C0.out _ (HV.out.keep hB0) (HT.out.keep hB0)).mono ?_
    rintro e w1 ⟨rfl, hb⟩
    have HB := Lib.hid (And.intro (below_of_new hB0 hb) (And.intro (hX0.keep hb) (Nat.lt_of_lt_of_le hz0 hb.size))); clear hb hB0 hX0 hz0
    go_wp2_with fail
    with_reducible refine (CT.out _ (HV.out.keep HB.out.1) (HT.out.keep HB.out.1)).mono ?_
    rintro e w2 ⟨v1, rfl, ho1, hn1, hb⟩
    have HB2 := Lib.hid (And.intro (below_of_new HB.out.1 hb) (HB.out.2.1.keep hb))
    have hz2 := Nat.lt_of_lt_of_le HB.out.2.2 hb.size
    obtain ⟨p, c, rfl, htr⟩ := ho1.tRow hn1 HB.out.2.2
    have HR := Lib.hid htr
    have H1 := Lib.hid (ho1.toV0 hn1)
    clear hb ho1 hn1 htr HB
    simp only []
    go_wp2_with fail
    with_reducible refine (CR.out _).mono ?_
    rintro e w3 ⟨v2, rfl, ho2, hn2, hb⟩
    have HB3 := Lib.hid (And.intro (below_of_new HB2.out.1 hb) (HB2.out.2.keep hb))
    have HR3 := Lib.hid (HR.out.keep hb)
    have H13 := Lib.hid (H1.out.keep hb)
    have H2 := Lib.hid (ho2.toV0 hn2)
    clear hb ho2 hn2 HB2 HR H1 hz2
    simp only []
    go_wp2_with fail
    with_reducible refine (CS.out _ _ _ H13.out H2.out).mono ?_
    rintro e w4 ⟨rfl, hb⟩
    have HI : Hid ((Below w.heap.size w w4 ∧ TokBox w4 w.heap.size k a b) ∧ TRow w4 w.heap.size ts.length p) := Lib.hid ⟨⟨below_of_new HB3.out.1 hb, HB3.out.2.keep hb⟩, HR3.out.keep hb⟩
    clear hb HB3 HR3 H13 H2 CS CT CR C0
    go_wp2_with fail
    go_loopw [13] (fun s13 wr => ∃ j : Nat, s13 = .int .i64 j ∧ j ≤ ts.length ∧ Hid ((Below w.heap.size w wr ∧ TokBox wr w.heap.size k a b) ∧ TRow wr w.heap.size ts.length p)) (fun s13 _ => ts.length - (RowKit.intOf s13).toNat)
    case atStart => exact ⟨0, rfl, by omega, HI.out⟩
    case round =>
      obtain ⟨j, rfl, hj, HJ⟩ := hrel
      by_cases hlt : j < ts.length
      · obtain ⟨g, rfl, hXg, hrb⟩ := HJ.out.2.resolve_left (by omega)
        obtain ⟨⟨x0, c0⟩, f0⟩ := hrb.cell (j * 3) (by omega)
        have hlz : (j : Int) < (ts.length : Int) := by omega
        have HK := Lib.hid hrb; clear hrb
        go_wp2_with fail
        go_roundw
        case rel => exact ⟨j + 1, by go_num, by omega, ⟨HJ.out.1.1.setCell (p := ⟨g, j * 3, none⟩) (Nat.le_of_lt hXg) _, HJ.out.1.2.set (Nat.ne_of_lt hXg) _ _⟩, .inr ⟨g, rfl, hXg, HK.out.set _ _⟩⟩
        case measure => simp [RowKit.intOf]; omega
      · obtain ⟨t0, t1, t2, f0, f1, f2⟩ := HJ.out.1.2.cells
        go_wp2_with fail
        with_reducible refine (CX.out _).mono ?_
        rintro e w5 ⟨rfl, hb⟩
        have HQ := Lib.hid (And.intro (below_of_new HJ.out.1.1 hb) (HJ.out.1.2.keep hb))
        clear hb t0 t1 t2 f0 f1 f2
        obtain ⟨t0, t1, t2, f0, f1, f2⟩ := HQ.out.2.cells
        go_wp2_with fail
        with_reducible refine (CY.out _).mono ?_
        rintro e w6 ⟨rfl, hb⟩
        have HQ2 := Lib.hid (below_of_new HQ.out.1 hb)
        clear hb
        go_wp2_with fail
        go_ret
        exact ⟨rfl, HQ2.out⟩)
end Go.Proofs.YtbbjgdnbekoaeaaGreatDoor
