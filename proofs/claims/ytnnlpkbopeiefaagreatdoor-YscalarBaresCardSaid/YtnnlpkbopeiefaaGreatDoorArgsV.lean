import Derived.Test.YtnnlpkbopeiefaaGreatDoorRows
import Derived.Test.YtnnlpkbopeiefaaGreatDoorWd
import Derived.ChangeMaps5
import Derived.ChangeArms
import Derived.ChangeSame
import Derived.ChangeSlices
import Derived.OpenShut
import Derived.Carry
import Derived.Deep.Slices
import Derived.Lib.SmallJoins
import Derived.KernelRfl
/-! Arguments of the laws that are values (trees): how they read. -/
namespace Go.Proofs.YtnnlpkbopeiefaaGreatDoor
set_option linter.unusedSimpArgs false
set_option linter.unusedVariables false
set_option linter.constructorNameAsVariable false
open Go.RowKit Go.Joins Go.ChangeShapes Go.WideShapes
section
variable {H : Type} {enc : TypeId × Value → H} {w : World} {base : Nat} {sp : Nat → Bool} {held : Bool}
theorem cells_string : Tryz.prog.cellsOf 9 = 1 := by kernel_rfl
theorem cells_int : Tryz.prog.cellsOf 3 = 1 := by kernel_rfl
theorem cells_texts : Tryz.prog.cellsOf 22 = 1 := by kernel_rfl
theorem cells_values : Tryz.prog.cellsOf 23 = 1 := by kernel_rfl
theorem cells_value : Tryz.prog.cellsOf 25 = 4 := by kernel_rfl
def strD {H : Type} (y : Stp) : DataW H := .lit (.string y)
theorem open_str {fuel : Nat} {cs : List Value} {x : DataW H × List MemPlace} (h : DataW.trod enc Tryz.prog w base sp held fuel 9 cs = some x) : ∃ y : Stp, cs = [.string (bs y)] ∧ x = (strD y, []) := by
  obtain ⟨t, ht, rfl, _⟩ := DataW.trod_string Tryz.underlying9 h
  exact ⟨t.data.toList, by rw [ht, bs_of], rfl⟩
theorem bulk_texts : ∀ l : List Stp, totS l + l.length ≤ Rows.uptoBulkAll (l.map (strD (H := H)))
  | [] => Nat.le_refl _
  | y :: l => by
    have := bulk_texts l
    rw [List.map_cons, Rows.uptoBulkAll, List.length_cons, totS_cons]
    simp only [strD, Rows.uptoBulk]
    omega
set_option maxRecDepth 100000 in
theorem texts_cells {fuel : Nat} {v : Value} {d : DataW H} {p : List MemPlace} (hf : DataW.trod enc Tryz.prog w base sp held fuel 22 [v] = some (d, p)) :
    ∃ l : List Stp, SV w v l ∧ totS l + l.length ≤ Rows.uptoBulk d := by
  rcases Deep.open_slice Tryz.underlying22 hf with ⟨hc, hx⟩ | ⟨a, len, cap, m, n, D, Pl, hc, hb, hl, hm, hmm, hx, hi⟩
  · obtain rfl := List.head_eq_of_cons_eq hc
    exact ⟨[], ⟨none, 0, rfl, Nat.le_refl _, .inl rfl⟩, Nat.zero_le _⟩
  · obtain rfl := List.head_eq_of_cons_eq hc
    have hle : len ≤ m := by rw [hmm]; split <;> omega
    obtain ⟨Y, hY⟩ := Deep.choose_lt (α := Stp) (n := len) (p := fun i y => w.cells? base (a.add (i * 1)) 1 = some [.string (bs y)] ∧ D i = strD y) (fun i h => by
      obtain ⟨cs, h1, h2⟩ := hi i (by omega)
      obtain ⟨y, rfl, hy⟩ := open_str h2
      rw [cells_string] at h1
      exact ⟨y, h1, congrArg Prod.fst hy⟩)
    have hd : d = .slice (((List.range len).map Y).map strD) ((List.range (m - len)).map fun j => D (len + j)) := by
      have := congrArg Prod.fst hx
      simp only [] at this
      rw [this, List.map_map]
      congr 1
      exact List.map_congr_left fun i h => (hY i (List.mem_range.1 h)).2
    refine ⟨(List.range len).map Y, ⟨some a, cap, by simp, by simpa using hl, ?_⟩, ?_⟩
    · cases len with
      | zero => exact .inl rfl
      | succ k =>
        right
        have hsp : a.spot = none := by
          obtain ⟨_, _, hc0⟩ := World.cells?_some (hY 0 (by omega)).1
          have := hc0 0 (by omega)
          rw [Nat.zero_mul] at this
          unfold World.cell? Addr.add at this
          simp only [if_true] at this
          split at this
          · split at this
            · simp at this
            · rename_i hs; simpa using hs
          · simp at this
        obtain ⟨g, o, s⟩ := a
        obtain rfl : s = none := hsp
        have hadd : ∀ i j, ((⟨g, o, none⟩ : Addr).add i).add j = ⟨g, o + i + j, none⟩ := fun i j => by unfold Addr.add; split <;> split <;> simp_all
        have hcell : ∀ i, i < k + 1 → w.cell? ⟨g, o + i, none⟩ = some (.string (bs (Y i))) := fun i h => by
          obtain ⟨_, _, hc0⟩ := World.cells?_some (hY i h).1
          have c0 := hc0 0 (by omega)
          rw [hadd, Nat.mul_one, Nat.add_zero] at c0
          exact c0
        refine ⟨g, o, rfl, cell_lt (hcell 0 (by omega)), fun j x hx => ?_⟩
        rw [List.getElem?_map] at hx
        obtain ⟨i, hi1, rfl⟩ := Option.map_eq_some_iff.1 hx
        obtain ⟨hlt, hii⟩ := List.getElem?_eq_some_iff.1 hi1
        simp at hii hlt
        subst hii
        exact hcell _ (by omega)
    · rw [hd, Rows.uptoBulk]
      have := bulk_texts (H := H) ((List.range len).map Y)
      omega
theorem bulkAll_ge : ∀ (l : List VT) (ds : List (DataW H)), ds.length = l.length → (∀ (i : Nat) (y : VT), l[i]? = some y → ∃ d, ds[i]? = some d ∧ y.bulk ≤ Rows.uptoBulk d) → bulks l ≤ Rows.uptoBulkAll ds
  | [], ds, _, _ => by rw [bulks]; omega
  | y :: l, ds, hl, h => by
    cases ds with
    | nil => simp at hl
    | cons d ds =>
      have ih := bulkAll_ge l ds (by simpa using hl) (fun i z hz => by
        have := h (i + 1) z (by simpa using hz)
        simpa using this)
      obtain ⟨d0, h1, h2⟩ := h 0 y rfl
      obtain rfl : d = d0 := by simpa using h1
      rw [bulks, Rows.uptoBulkAll]
      omega
instance : Inhabited (VT × Value × Value) := ⟨(.mk 0 [] [] [], .nilFunc, .nilFunc)⟩
set_option maxRecDepth 100000 in
set_option maxHeartbeats 1000000 in
theorem value_cells : ∀ (N : Nat) (d : DataW H), SizeOf.sizeOf d ≤ N → ∀ (fuel : Nat) (cs : List Value) (p : List MemPlace), DataW.trod enc Tryz.prog w base sp held fuel 25 cs = some (d, p) →
    ∃ y : VT × Value × Value, cs = [.int .i64 y.1.kind, .string (bs y.1.text), y.2.1, y.2.2] ∧ VD w y.1.depth y.1 y.2.1 y.2.2 ∧ y.1.bulk ≤ Rows.uptoBulk d := by
  intro N
  induction N with
  | zero =>
    intro d hd
    exfalso
    cases d <;> simp at hd
  | succ N ih =>
    intro d hd fuel cs p h
    obtain ⟨xs, n, _, hxx, hlen, hxl, hf⟩ := DataW.trod_struct Tryz.underlying25 h
    have h2 := hlen.trans cells_value
    match cs, h2 with
    | [c0, c1, c2, c3], _ =>
    match xs, hxl with
    | [y0, y1, y2, y3], _ =>
    have e0 : DataW.trod enc Tryz.prog w base sp held n 3 (([c0, c1, c2, c3].drop 0).take (Tryz.prog.cellsOf 3)) = some y0 := hf 0 _ rfl
    have e1 : DataW.trod enc Tryz.prog w base sp held n 9 (([c0, c1, c2, c3].drop 1).take (Tryz.prog.cellsOf 9)) = some y1 := hf 1 _ rfl
    have e2 : DataW.trod enc Tryz.prog w base sp held n 22 (([c0, c1, c2, c3].drop 2).take (Tryz.prog.cellsOf 22)) = some y2 := hf 2 _ rfl
    have e3 : DataW.trod enc Tryz.prog w base sp held n 23 (([c0, c1, c2, c3].drop 3).take (Tryz.prog.cellsOf 23)) = some y3 := hf 3 _ rfl
    simp only [cells_texts, cells_string, cells_int, cells_values, List.drop_zero, List.drop_succ_cons, List.take_succ_cons, List.take_zero, List.take_nil] at e0 e1 e2 e3
    obtain ⟨k, hk, rfl, _⟩ := DataW.trod_int Tryz.underlying3 e0
    obtain rfl := List.head_eq_of_cons_eq hk
    obtain ⟨s, hs, rfl⟩ := open_str e1
    obtain rfl := List.head_eq_of_cons_eq hs
    obtain ⟨d2, p2⟩ := y2
    obtain ⟨d3, p3⟩ := y3
    obtain ⟨ks, hks, hkb⟩ := texts_cells e2
    obtain rfl : d = .agg [.lit (.int .i64 k), strD s, d2, d3] := congrArg Prod.fst hxx
    have hsz : SizeOf.sizeOf d3 ≤ N := by
      simp at hd
      omega
    have key : ∃ (l : List VT), (∃ p c, c3 = .slice p l.length c ∧ l.length ≤ c ∧ (l = [] ∨ ∃ g o, p = some ⟨g, o, none⟩ ∧ g < w.heap.size ∧ ∀ (j : Nat) (x : VT), l[j]? = some x → ∃ kv' iv', w.cell? ⟨g, o + j * 4, none⟩ = some (.int .i64 x.kind) ∧ w.cell? ⟨g, o + j * 4 + 1, none⟩ = some (.string (bs x.text)) ∧ w.cell? ⟨g, o + j * 4 + 2, none⟩ = some kv' ∧ w.cell? ⟨g, o + j * 4 + 3, none⟩ = some iv' ∧ VD w (depths l) x kv' iv')) ∧ bulks l ≤ Rows.uptoBulk d3 := by
      rcases Deep.open_slice Tryz.underlying23 e3 with ⟨hc, hx⟩ | ⟨a, len, cap, m, n', D, Pl, hc, hb, hl, hm, hmm, hx, hi⟩
      · obtain rfl := List.head_eq_of_cons_eq hc
        exact ⟨[], ⟨none, 0, rfl, Nat.le_refl _, .inl rfl⟩, by rw [bulks]; omega⟩
      · obtain rfl := List.head_eq_of_cons_eq hc
        have hle : len ≤ m := by rw [hmm]; split <;> omega
        have hd3 : d3 = .slice ((List.range len).map D) ((List.range (m - len)).map fun j => D (len + j)) := by
          have := congrArg Prod.fst hx
          simpa using this
        have hDs : ∀ i, i < len → SizeOf.sizeOf (D i) ≤ N := fun i h => by
          have h1 : D i ∈ (List.range len).map D := List.mem_map.2 ⟨i, List.mem_range.2 h, rfl⟩
          have h2 := List.sizeOf_lt_of_mem h1
          rw [hd3] at hsz
          simp at hsz
          omega
        obtain ⟨Y, hY⟩ := Deep.choose_lt (α := VT × Value × Value) (n := len) (p := fun i y => w.cells? base (a.add (i * 4)) 4 = some [.int .i64 y.1.kind, .string (bs y.1.text), y.2.1, y.2.2] ∧ VD w y.1.depth y.1 y.2.1 y.2.2 ∧ y.1.bulk ≤ Rows.uptoBulk (D i)) (fun i h => by
          obtain ⟨cs, h1, h2⟩ := hi i (by omega)
          obtain ⟨y, rfl, hy, hb⟩ := ih (D i) (hDs i h) _ _ _ h2
          rw [cells_value] at h1
          exact ⟨y, h1, hy, hb⟩)
        refine ⟨((List.range len).map Y).map (·.1), ⟨some a, cap, by simp, by simpa using hl, ?_⟩, ?_⟩
        · cases len with
          | zero => exact .inl rfl
          | succ k' =>
            right
            have hsp : a.spot = none := by
              obtain ⟨_, _, hc0⟩ := World.cells?_some (hY 0 (by omega)).1
              have := hc0 0 (by omega)
              rw [Nat.zero_mul] at this
              unfold World.cell? Addr.add at this
              simp only [if_true] at this
              split at this
              · split at this
                · simp at this
                · rename_i hs; simpa using hs
              · simp at this
            obtain ⟨g, o, sx⟩ := a
            obtain rfl : sx = none := hsp
            have hadd : ∀ i j, ((⟨g, o, none⟩ : Addr).add i).add j = ⟨g, o + i + j, none⟩ := fun i j => by unfold Addr.add; split <;> split <;> simp_all
            have hcell : ∀ i, i < k' + 1 → w.cell? ⟨g, o + i * 4, none⟩ = some (.int .i64 (Y i).1.kind) ∧ w.cell? ⟨g, o + i * 4 + 1, none⟩ = some (.string (bs (Y i).1.text)) ∧ w.cell? ⟨g, o + i * 4 + 2, none⟩ = some (Y i).2.1 ∧ w.cell? ⟨g, o + i * 4 + 3, none⟩ = some (Y i).2.2 := fun i h => by
              obtain ⟨_, _, hc0⟩ := World.cells?_some (hY i h).1
              have c0 := hc0 0 (by omega)
              have c1 := hc0 1 (by omega)
              have c2 := hc0 2 (by omega)
              have c3 := hc0 3 (by omega)
              rw [hadd] at c0 c1 c2 c3
              exact ⟨c0, c1, c2, c3⟩
            refine ⟨g, o, rfl, cell_lt (hcell 0 (by omega)).1, fun j x hx => ?_⟩
            have hxm := List.mem_of_getElem? hx
            rw [List.getElem?_map] at hx
            obtain ⟨z, hz, rfl⟩ := Option.map_eq_some_iff.1 hx
            rw [List.getElem?_map] at hz
            obtain ⟨i, hi1, rfl⟩ := Option.map_eq_some_iff.1 hz
            obtain ⟨hlt, hii⟩ := List.getElem?_eq_some_iff.1 hi1
            simp at hii hlt
            subst hii
            have hvd := (hY j (by omega)).2.1.more (depths (((List.range (k' + 1)).map Y).map (·.1)) - (Y j).1.depth)
            have hdm := depth_mem hxm
            rw [show (Y j).1.depth + (depths (((List.range (k' + 1)).map Y).map (·.1)) - (Y j).1.depth) = depths (((List.range (k' + 1)).map Y).map (·.1)) by omega] at hvd
            exact ⟨(Y j).2.1, (Y j).2.2, (hcell _ (by omega)).1, (hcell _ (by omega)).2.1, (hcell _ (by omega)).2.2.1, (hcell _ (by omega)).2.2.2, hvd⟩
        · rw [hd3, Rows.uptoBulk]
          have := bulkAll_ge (H := H) (((List.range len).map Y).map (·.1)) ((List.range len).map D) (by simp) (fun i y hy => by
            rw [List.getElem?_map] at hy
            obtain ⟨z, hz, rfl⟩ := Option.map_eq_some_iff.1 hy
            rw [List.getElem?_map] at hz
            obtain ⟨k', hk', rfl⟩ := Option.map_eq_some_iff.1 hz
            have hk2 : i = k' := by
              obtain ⟨hlt, hii⟩ := List.getElem?_eq_some_iff.1 hk'
              simpa using hii
            have hkl := (List.getElem?_eq_some_iff.1 hk').1
            subst hk2
            exact ⟨D i, by rw [List.getElem?_map, hk']; rfl, (hY i (by simpa using hkl)).2.2⟩)
          omega
    obtain ⟨l, hl, hlb⟩ := key
    refine ⟨(.mk k s ks l, c2, c3), rfl, ?_, ?_⟩
    · rw [VT.depth]
      exact ⟨hks, hl⟩
    · rw [VT.bulk]
      simp only [Rows.uptoBulk, Rows.uptoBulkAll, strD]
      omega
set_option maxRecDepth 100000 in
theorem open_value {r : Reach} {b0 : Nat} {v : Value} {d : DataW H} {p : List MemPlace} (hv : Value.okWide Tryz.prog w r b0 25 v) (h : DataW.Trod enc Tryz.prog w base sp held 25 v d p) :
    ∃ (t : VT) (kv iv : Value), v = vv t kv iv ∧ VD w t.depth t kv iv ∧ t.bulk ≤ Rows.uptoBulk d := by
  obtain ⟨cs, rfl, hsz⟩ := okWide_struct Tryz.underlying25 hv
  obtain ⟨fuel, hf⟩ := h
  obtain ⟨⟨t, kv, iv⟩, hy, hvd, hb⟩ := value_cells _ d (Nat.le_refl _) _ _ _ hf
  refine ⟨t, kv, iv, ?_, hvd, hb⟩
  unfold vv
  congr 1
  have e : (Value.agg cs).cells = cs := rfl
  rw [e] at hy
  exact Array.toList_inj.1 hy
theorem int_bd {e : Int} (h : (Lit.int .i64 e).wf = true) : -9223372036854775808 ≤ e ∧ e ≤ 9223372036854775807 := by
  simp only [Lit.wf, Bool.and_eq_true, decide_eq_true_eq] at h
  have h1 : IntKind.i64.min = -9223372036854775808 := by decide
  have h2 : IntKind.i64.max = 9223372036854775807 := by decide
  omega
end
end Go.Proofs.YtnnlpkbopeiefaaGreatDoor
