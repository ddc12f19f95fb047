import Derived.Test.YtfklmopnifkieaaGreatDoorArgsR
import Derived.Test.YtfklmopnifkieaaGreatDoorRuT
/-! Arguments of the laws that are rows of rules: how they read. -/
namespace Go.Proofs.YtfklmopnifkieaaGreatDoor
set_option linter.unusedSimpArgs false
set_option linter.unusedVariables false
set_option linter.constructorNameAsVariable false
open Go.RowKit Go.Joins Go.ChangeShapes Go.WideShapes
section
variable {H : Type} {enc : TypeId × Value → H} {w : World} {base : Nat} {sp : Nat → Bool} {held : Bool}
theorem cells_texts : Tryz.prog.cellsOf 23 = 1 := by kernel_rfl
theorem cells_rule : Tryz.prog.cellsOf 38 = 2 := by kernel_rfl
set_option maxRecDepth 100000 in
theorem texts_cells {fuel : Nat} {v : Value} {d : DataW H} {p : List MemPlace} (hf : DataW.trod enc Tryz.prog w base sp held fuel 23 [v] = some (d, p)) :
    ∃ l : List Stp, SV w v l ∧ totS l + l.length ≤ Rows.uptoBulk d := by
  rcases Deep.open_slice Tryz.underlying23 hf with ⟨hc, hx⟩ | ⟨a, len, cap, m, n, D, Pl, hc, hb, hl, hm, hmm, hx, hi⟩
  · obtain rfl := List.head_eq_of_cons_eq hc
    exact ⟨[], ⟨none, 0, rfl, Nat.le_refl _, .inl rfl⟩, Nat.zero_le _⟩
  · obtain rfl := List.head_eq_of_cons_eq hc
    have hle : len ≤ m := by rw [hmm]; split <;> omega
    obtain ⟨Y, hY⟩ := Deep.choose_lt (α := Stp) (n := len) (p := fun i y => w.cells? base (a.add (i * 1)) 1 = some [.string (bs y)] ∧ D i = strD y) (fun i h => by
      obtain ⟨cs, h1, h2⟩ := hi i (by omega)
      obtain ⟨y, rfl, hy⟩ := open_str h2
      rw [cells_string] at h1
      exact ⟨y, h1, congrArg Prod.fst hy⟩)
    have hd : d = .slice (((List.range len).map Y).map strD) ((List.range (m - len)).map fun j => D (len + j)) := by
      have := congrArg Prod.fst hx
      simp only [] at this
      rw [this, List.map_map]
      congr 1
      exact List.map_congr_left fun i h => (hY i (List.mem_range.1 h)).2
    refine ⟨(List.range len).map Y, ⟨some a, cap, by simp, by simpa using hl, ?_⟩, ?_⟩
    · cases len with
      | zero => exact .inl rfl
      | succ k =>
        right
        have hsp : a.spot = none := by
          obtain ⟨_, _, hc0⟩ := World.cells?_some (hY 0 (by omega)).1
          have := hc0 0 (by omega)
          rw [Nat.zero_mul] at this
          unfold World.cell? Addr.add at this
          simp only [if_true] at this
          split at this
          · split at this
            · simp at this
            · rename_i hs; simpa using hs
          · simp at this
        obtain ⟨g, o, s⟩ := a
        obtain rfl : s = none := hsp
        have hadd : ∀ i j, ((⟨g, o, none⟩ : Addr).add i).add j = ⟨g, o + i + j, none⟩ := fun i j => by unfold Addr.add; split <;> split <;> simp_all
        have hcell : ∀ i, i < k + 1 → w.cell? ⟨g, o + i, none⟩ = some (.string (bs (Y i))) := fun i h => by
          obtain ⟨_, _, hc0⟩ := World.cells?_some (hY i h).1
          have c0 := hc0 0 (by omega)
          rw [hadd, Nat.mul_one, Nat.add_zero] at c0
          exact c0
        refine ⟨g, o, rfl, cell_lt (hcell 0 (by omega)), fun j x hx => ?_⟩
        rw [List.getElem?_map] at hx
        obtain ⟨i, hi1, rfl⟩ := Option.map_eq_some_iff.1 hx
        obtain ⟨hlt, hii⟩ := List.getElem?_eq_some_iff.1 hi1
        simp at hii hlt
        subst hii
        exact hcell _ (by omega)
    · rw [hd, Rows.uptoBulk]
      have := bulk_texts (H := H) ((List.range len).map Y)
      omega
instance : Inhabited (Value × Rul) := ⟨(.nilFunc, ([], []))⟩
set_option maxRecDepth 100000 in
theorem open_rcells {fuel : Nat} {cs : List Value} {x : DataW H × List MemPlace} (h : DataW.trod enc Tryz.prog w base sp held fuel 38 cs = some x) :
    ∃ (y : Value × Rul) (d0 : DataW H), cs = [y.1, .string (bs y.2.2)] ∧ x.1 = .agg [d0, strD y.2.2] ∧ SV w y.1 y.2.1 ∧ totS y.2.1 + y.2.1.length ≤ Rows.uptoBulk d0 := by
  obtain ⟨xs, n, _, rfl, hlen, hxl, hf⟩ := DataW.trod_struct Tryz.underlying38 h
  have h2 := hlen.trans cells_rule
  match cs, h2 with
  | [c0, c1], _ =>
  match xs, hxl with
  | [y0, y1], _ =>
  have e0 : DataW.trod enc Tryz.prog w base sp held n 23 (([c0, c1].drop 0).take (Tryz.prog.cellsOf 23)) = some y0 := hf 0 _ rfl
  have e1 : DataW.trod enc Tryz.prog w base sp held n 9 (([c0, c1].drop 1).take (Tryz.prog.cellsOf 9)) = some y1 := hf 1 _ rfl
  simp only [cells_texts, cells_string, List.drop_zero, List.drop_succ_cons, List.take_succ_cons, List.take_zero, List.take_nil] at e0 e1
  obtain ⟨d0, p0⟩ := y0
  obtain ⟨l, hl, hb⟩ := texts_cells e0
  obtain ⟨k, hk, rfl⟩ := open_str e1
  obtain rfl := List.head_eq_of_cons_eq hk
  exact ⟨(c0, (l, k)), d0, rfl, rfl, hl, hb⟩
def totR (l : List Rul) : Nat := (l.map fun x => totS x.1 + x.1.length + x.2.length).sum
theorem totR_cons (x : Rul) (l : List Rul) : totR (x :: l) = totS x.1 + x.1.length + x.2.length + totR l := rfl
theorem bulk_rules : ∀ (l : List (Value × Rul)) (ds : List (DataW H)), ds.length = l.length → (∀ (i : Nat) (y : Value × Rul), l[i]? = some y → ∃ d0 : DataW H, ds[i]? = some (DataW.agg [d0, strD y.2.2]) ∧ totS y.2.1 + y.2.1.length ≤ Rows.uptoBulk d0) → totR (l.map (·.2)) + l.length ≤ Rows.uptoBulkAll ds
  | [], ds, _, _ => by simp [totR]
  | y :: l, ds, hl, h => by
    cases ds with
    | nil => simp at hl
    | cons d ds =>
      have ih := bulk_rules l ds (by simpa using hl) (fun i z hz => by
        have := h (i + 1) z (by simpa using hz)
        simpa using this)
      obtain ⟨d0, h1, h2⟩ := h 0 y rfl
      obtain rfl : d = .agg [d0, strD y.2.2] := by simpa using h1
      rw [List.map_cons, totR_cons, Rows.uptoBulkAll, List.length_cons]
      simp only [strD, Rows.uptoBulk, Rows.uptoBulkAll]
      omega
set_option maxRecDepth 100000 in
theorem open_rules {r : Reach} {b0 : Nat} {v : Value} {d : DataW H} {p : List MemPlace} (hv : Value.okWide Tryz.prog w r b0 22 v) (h : DataW.Trod enc Tryz.prog w base sp held 22 v d p) :
    ∃ l : List Rul, RV w v l ∧ totR l + l.length ≤ Rows.uptoBulk d := by
  obtain ⟨fuel, hf⟩ := h
  rcases Deep.open_slice Tryz.underlying22 hf with ⟨hc, hx⟩ | ⟨a, len, cap, m, n, D, Pl, hc, hb, hl, hm, hmm, hx, hi⟩
  · obtain rfl := okWide_row Tryz.underlying22 hv hc
    exact ⟨[], ⟨none, 0, rfl, Nat.le_refl _, .inl rfl⟩, Nat.zero_le _⟩
  · obtain rfl := okWide_row Tryz.underlying22 hv hc
    have hle : len ≤ m := by rw [hmm]; split <;> omega
    obtain ⟨Y, hY⟩ := Deep.choose_lt (α := Value × Rul) (n := len) (p := fun i y => w.cells? base (a.add (i * 2)) 2 = some [y.1, .string (bs y.2.2)] ∧ SV w y.1 y.2.1 ∧ ∃ d0, D i = .agg [d0, strD y.2.2] ∧ totS y.2.1 + y.2.1.length ≤ Rows.uptoBulk d0) (fun i h => by
      obtain ⟨cs, h1, h2⟩ := hi i (by omega)
      obtain ⟨y, d0, rfl, hy, hs, hb⟩ := open_rcells h2
      rw [cells_rule] at h1
      exact ⟨y, h1, hs, d0, hy, hb⟩)
    have hd : d = .slice ((List.range len).map D) ((List.range (m - len)).map fun j => D (len + j)) := by
      have := congrArg Prod.fst hx
      simpa using this
    refine ⟨((List.range len).map Y).map (·.2), ⟨some a, cap, by simp, by simpa using hl, ?_⟩, ?_⟩
    · cases len with
      | zero => exact .inl rfl
      | succ k =>
        right
        have hsp : a.spot = none := by
          obtain ⟨_, _, hc0⟩ := World.cells?_some (hY 0 (by omega)).1
          have := hc0 0 (by omega)
          rw [Nat.zero_mul] at this
          unfold World.cell? Addr.add at this
          simp only [if_true] at this
          split at this
          · split at this
            · simp at this
            · rename_i hs; simpa using hs
          · simp at this
        obtain ⟨g, o, s⟩ := a
        obtain rfl : s = none := hsp
        have hadd : ∀ i j, ((⟨g, o, none⟩ : Addr).add i).add j = ⟨g, o + i + j, none⟩ := fun i j => by unfold Addr.add; split <;> split <;> simp_all
        have hcell : ∀ i, i < k + 1 → w.cell? ⟨g, o + i * 2, none⟩ = some (Y i).1 ∧ w.cell? ⟨g, o + i * 2 + 1, none⟩ = some (.string (bs (Y i).2.2)) := fun i h => by
          obtain ⟨_, _, hc0⟩ := World.cells?_some (hY i h).1
          have c0 := hc0 0 (by omega)
          have c1 := hc0 1 (by omega)
          rw [hadd] at c0 c1
          exact ⟨c0, c1⟩
        refine ⟨g, o, rfl, cell_lt (hcell 0 (by omega)).1, fun j x hx => ?_⟩
        rw [List.getElem?_map] at hx
        obtain ⟨z, hz, rfl⟩ := Option.map_eq_some_iff.1 hx
        rw [List.getElem?_map] at hz
        obtain ⟨i, hi1, rfl⟩ := Option.map_eq_some_iff.1 hz
        obtain ⟨hlt, hii⟩ := List.getElem?_eq_some_iff.1 hi1
        simp at hii hlt
        subst hii
        exact ⟨(Y j).1, (hcell _ (by omega)).1, (hcell _ (by omega)).2, (hY j (by omega)).2.1⟩
    · rw [hd, Rows.uptoBulk]
      have := bulk_rules (H := H) ((List.range len).map Y) ((List.range len).map D) (by simp) (fun i y hy => by
        rw [List.getElem?_map] at hy
        obtain ⟨k, hk, rfl⟩ := Option.map_eq_some_iff.1 hy
        have hk2 : i = k := by
          obtain ⟨hlt, hii⟩ := List.getElem?_eq_some_iff.1 hk
          simpa using hii
        have hkl := (List.getElem?_eq_some_iff.1 hk).1
        subst hk2
        obtain ⟨d0, e1, e2⟩ := (hY i (by simpa using hkl)).2.2
        exact ⟨d0, by rw [List.getElem?_map, hk]; exact congrArg some e1, e2⟩)
      simp only [List.length_map, List.length_range] at this ⊢
      omega
theorem totS_mem {l : List Stp} {x : Stp} (h : x ∈ l) : x.length ≤ totS l := by
  induction l with
  | nil => cases h
  | cons y l ih =>
    have e : totS (y :: l) = y.length + totS l := rfl
    rw [e]
    rcases List.mem_cons.1 h with rfl | h
    · omega
    · have := ih h; omega
theorem small_rules {l : List Rul} (h : totR l + l.length ≤ 1048576) : SmallR l := ⟨by omega, fun x hx => by
  have key : ∀ (l : List Rul), x ∈ l → totS x.1 + x.1.length + x.2.length ≤ totR l := by
    intro l
    induction l with
    | nil => intro h; cases h
    | cons y l ih =>
      intro h
      rw [totR_cons]
      rcases List.mem_cons.1 h with rfl | h
      · omega
      · have := ih h; omega
  have hk := key l hx
  exact ⟨small_of (by omega), by omega⟩⟩
end
end Go.Proofs.YtfklmopnifkieaaGreatDoor
