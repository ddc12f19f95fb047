import Derived.Test.YtdegjfmjjabnnaaDoorRows
import Derived.Test.YtdegjfmjjabnnaaDoorMkY
import Derived.ChangeMaps5
import Derived.ChangeArms
import Derived.ChangeSame
import Derived.ChangeSlices
import Derived.OpenShut
import Derived.Carry
import Derived.Deep.Slices
import Derived.Lib.SmallJoins
import Derived.KernelRfl
/-! Arguments of the laws that are rows of parts, rows of ints, parts: how they read. -/
namespace Go.Proofs.YtdegjfmjjabnnaaDoor
set_option linter.unusedSimpArgs false
set_option linter.unusedVariables false
set_option linter.constructorNameAsVariable false
open Go.RowKit Go.Joins Go.ChangeShapes Go.WideShapes
section
variable {H : Type} {enc : TypeId × Value → H} {w : World} {base : Nat} {sp : Nat → Bool} {held : Bool}
theorem cells_bool : Tryd.prog.cellsOf 4 = 1 := by kernel_rfl
theorem cells_string : Tryd.prog.cellsOf 9 = 1 := by kernel_rfl
theorem cells_int : Tryd.prog.cellsOf 3 = 1 := by kernel_rfl
theorem cells_three : Tryd.prog.cellsOf 33 = 3 := by kernel_rfl
theorem cells_part : Tryd.prog.cellsOf 35 = 5 := by kernel_rfl
instance : Inhabited Part := ⟨⟨false, [], [], [], []⟩⟩
def partD {H : Type} (y : Part) : DataW H := .agg [.lit (.bool y.hunk), .lit (.string y.text), .agg [.lit (.string y.s0), .lit (.string y.s1), .lit (.string y.s2)]]
set_option maxRecDepth 100000 in
theorem open_cells {fuel : Nat} {cs : List Value} {x : DataW H × List MemPlace} (h : DataW.trod enc Tryd.prog w base sp held fuel 35 cs = some x) : ∃ y : Part, cs = partVs y ∧ x = (partD y, []) := by
  obtain ⟨xs, n, _, rfl, hlen, hxl, hf⟩ := DataW.trod_struct Tryd.underlying35 h
  have h5 := hlen.trans cells_part
  match cs, h5 with
  | [c0, c1, c2, c3, c4], _ =>
  match xs, hxl with
  | [y0, y1, y2], _ =>
  have e0 : DataW.trod enc Tryd.prog w base sp held n 4 (([c0, c1, c2, c3, c4].drop 0).take (Tryd.prog.cellsOf 4)) = some y0 := hf 0 _ rfl
  have e1 : DataW.trod enc Tryd.prog w base sp held n 9 (([c0, c1, c2, c3, c4].drop 1).take (Tryd.prog.cellsOf 9)) = some y1 := hf 1 _ rfl
  have e2 : DataW.trod enc Tryd.prog w base sp held n 33 (([c0, c1, c2, c3, c4].drop 2).take (Tryd.prog.cellsOf 33)) = some y2 := hf 2 _ rfl
  simp only [cells_bool, cells_string, cells_three, List.drop_zero, List.drop_succ_cons, List.take_succ_cons, List.take_zero, List.take_nil, List.getElem?_cons_zero, List.getElem?_cons_succ] at e0 e1 e2
  obtain ⟨b, hb, rfl⟩ := DataW.trod_bool Tryd.underlying4 e0
  obtain ⟨t, ht, rfl, _⟩ := DataW.trod_string Tryd.underlying9 e1
  obtain ⟨zs, m, _, rfl, hl3, hz3, hg⟩ := DataW.trod_array Tryd.underlying33 e2
  match zs, hz3 with
  | [z0, z1, z2], _ =>
  have g0 := hg 0 (by decide)
  have g1 := hg 1 (by decide)
  have g2 := hg 2 (by decide)
  simp only [cells_string, Nat.mul_one, List.drop_zero, List.drop_succ_cons, List.take_succ_cons, List.take_zero, List.take_nil, List.getElem?_cons_zero, List.getElem?_cons_succ] at g0 g1 g2
  obtain ⟨a0, q0, rfl, _⟩ := DataW.trod_string Tryd.underlying9 g0
  obtain ⟨a1, q1, rfl, _⟩ := DataW.trod_string Tryd.underlying9 g1
  obtain ⟨a2, q2, rfl, _⟩ := DataW.trod_string Tryd.underlying9 g2
  simp at hb ht q0 q1 q2
  subst hb ht q0 q1 q2
  refine ⟨⟨b, t.data.toList, a0.data.toList, a1.data.toList, a2.data.toList⟩, ?_, ?_⟩
  · unfold partVs
    simp only [bs_of]
  · unfold partD
    simp
theorem bulk_parts : ∀ l : List Part, Rows.uptoBulkAll (l.map (partD (H := H))) = totP l + 7 * l.length
  | [] => rfl
  | y :: l => by
    have := bulk_parts l
    rw [List.map_cons, Rows.uptoBulkAll, this, totP_cons, List.length_cons]
    simp only [partD, Rows.uptoBulk, Rows.uptoBulkAll]
    omega
set_option maxRecDepth 100000 in
theorem okWide_row {t e : TypeId} {r : Reach} {b0 : Nat} {v : Value} {u : Value} (ht : Tryd.prog.underlying t = some (.slice e)) (hv : Value.okWide Tryd.prog w r b0 t v) (hu : v.cells.toList = [u]) : v = u := by
  cases v <;> simp_all [Value.okWide, Cell.okWide, Cell.ok, Value.cells]
set_option maxRecDepth 100000 in
theorem open_parts {r : Reach} {b0 : Nat} {v : Value} {d : DataW H} {p : List MemPlace} (hv : Value.okWide Tryd.prog w r b0 22 v) (h : DataW.Trod enc Tryd.prog w base sp held 22 v d p) :
    ∃ l : List Part, PV w v l ∧ totP l + 5 * l.length ≤ Rows.uptoBulk d := by
  obtain ⟨fuel, hf⟩ := h
  rcases Deep.open_slice Tryd.underlying22 hf with ⟨hc, hx⟩ | ⟨a, len, cap, m, n, D, Pl, hc, hb, hl, hm, hmm, hx, hi⟩
  · obtain rfl := okWide_row Tryd.underlying22 hv hc
    exact ⟨[], ⟨none, 0, rfl, .inl rfl⟩, Nat.zero_le _⟩
  · obtain rfl := okWide_row Tryd.underlying22 hv hc
    have hle : len ≤ m := by rw [hmm]; split <;> omega
    obtain ⟨Y, hY⟩ := Deep.choose_lt (α := Part) (n := len) (p := fun i y => w.cells? base (a.add (i * 5)) 5 = some (partVs y) ∧ D i = partD y) (fun i h => by
      obtain ⟨cs, h1, h2⟩ := hi i (by omega)
      obtain ⟨y, rfl, hy⟩ := open_cells h2
      rw [cells_part] at h1
      exact ⟨y, h1, congrArg Prod.fst hy⟩)
    have hd : d = .slice (((List.range len).map Y).map partD) ((List.range (m - len)).map fun j => D (len + j)) := by
      have := congrArg Prod.fst hx
      simp only [] at this
      rw [this, List.map_map]
      congr 1
      exact List.map_congr_left fun i h => (hY i (List.mem_range.1 h)).2
    refine ⟨(List.range len).map Y, ⟨some a, cap, by simp, ?_⟩, ?_⟩
    · cases len with
      | zero => exact .inl rfl
      | succ k =>
        right
        have hsp : a.spot = none := by
          obtain ⟨_, _, hc0⟩ := World.cells?_some (hY 0 (by omega)).1
          have := hc0 0 (by omega)
          rw [Nat.zero_mul] at this
          unfold World.cell? Addr.add at this
          simp only [if_true] at this
          split at this
          · split at this
            · simp [partVs] at this
            · rename_i hs; simpa using hs
          · simp [partVs] at this
        obtain ⟨g, o, s⟩ := a
        obtain rfl : s = none := hsp
        have hadd : ∀ i j, ((⟨g, o, none⟩ : Addr).add i).add j = ⟨g, o + i + j, none⟩ := fun i j => by unfold Addr.add; split <;> split <;> simp_all
        have hcell : ∀ i, i < k + 1 → PCells w g (o + i * 5) (Y i) := fun i h => by
          obtain ⟨_, _, hc0⟩ := World.cells?_some (hY i h).1
          have c0 := hc0 0 (by omega)
          have c1 := hc0 1 (by omega)
          have c2 := hc0 2 (by omega)
          have c3 := hc0 3 (by omega)
          have c4 := hc0 4 (by omega)
          rw [hadd] at c0 c1 c2 c3 c4
          exact ⟨c0, c1, c2, c3, c4⟩
        refine ⟨g, o, rfl, cell_lt (hcell 0 (by omega)).1, fun j x hx => ?_⟩
        rw [List.getElem?_map] at hx
        obtain ⟨i, hi1, rfl⟩ := Option.map_eq_some_iff.1 hx
        obtain ⟨hlt, hii⟩ := List.getElem?_eq_some_iff.1 hi1
        simp at hii hlt
        subst hii
        exact hcell _ (by omega)
    · rw [hd, Rows.uptoBulk, bulk_parts]
      omega
theorem int_bd {e : Int} (h : (Lit.int .i64 e).wf = true) : -9223372036854775808 ≤ e ∧ e ≤ 9223372036854775807 := by
  simp only [Lit.wf, Bool.and_eq_true, decide_eq_true_eq] at h
  have h1 : IntKind.i64.min = -9223372036854775808 := by decide
  have h2 : IntKind.i64.max = 9223372036854775807 := by decide
  omega
theorem bulk_ints : ∀ l : List Int, Rows.uptoBulkAll (H := H) (Go.ChangeShapes.lits .i64 l) = l.length
  | [] => rfl
  | k :: l => by
    have := bulk_ints l
    unfold Go.ChangeShapes.lits at this ⊢
    rw [List.map_cons, Rows.uptoBulkAll, this, List.length_cons]
    simp only [Rows.uptoBulk]
    omega
set_option maxRecDepth 100000 in
theorem open_ints {r : Reach} {b0 : Nat} {v : Value} {d : DataW H} {p : List MemPlace} (hv : Value.okWide Tryd.prog w r b0 23 v) (h : DataW.Trod enc Tryd.prog w base sp held 23 v d p) :
    ∃ ps : List Int, IV w v ps ∧ ps.length ≤ Rows.uptoBulk d ∧ ∀ k ∈ ps, -9223372036854775808 ≤ k ∧ k ≤ 9223372036854775807 := by
  obtain ⟨fuel, hf⟩ := h
  rcases Go.ChangeShapes.open_ints Tryd.underlying23 Tryd.underlying3 cells_int hf with ⟨hc, hx⟩ | ⟨a, len, cap, zs, hc, hb, hl, hm, hz, hx, hi, hw⟩
  · obtain rfl := okWide_row Tryd.underlying23 hv hc
    exact ⟨[], ⟨none, 0, rfl, Nat.le_refl _, .inl rfl⟩, Nat.zero_le _, fun k hk => by cases hk⟩
  · obtain rfl := okWide_row Tryd.underlying23 hv hc
    have hle : len ≤ zs.length := by rw [hz]; split <;> omega
    have hlt : (zs.take len).length = len := by rw [List.length_take]; omega
    refine ⟨zs.take len, ⟨some a, cap, by rw [hlt], by omega, ?_⟩, ?_, fun k hk => int_bd (hw k (List.mem_of_mem_take hk))⟩
    · cases len with
      | zero => exact .inl (by simp)
      | succ k =>
        right
        have hsp : a.spot = none := by
          have := hi 0 (by omega)
          unfold World.cell? Addr.add at this
          simp only [if_true] at this
          split at this
          · split at this
            · cases this
            · rename_i hs; simpa using hs
          · cases this
        obtain ⟨g, o, s⟩ := a
        obtain rfl : s = none := hsp
        have hadd : ∀ i, ((⟨g, o, none⟩ : Addr).add i) = ⟨g, o + i, none⟩ := fun i => by unfold Addr.add; split <;> simp_all
        refine ⟨g, o, rfl, cell_lt (hi 0 (by omega)), fun j q hj => ?_⟩
        have hjl := (List.getElem?_eq_some_iff.1 hj).1
        rw [hlt] at hjl
        have := hi j (by omega)
        rw [hadd] at this
        rw [this]
        rw [List.getElem?_take_of_lt hjl] at hj
        rw [List.getD, hj]
        rfl
    · have := congrArg Prod.fst hx
      simp only [] at this
      rw [this, Rows.uptoBulk]
      rw [bulk_ints, hlt]
      omega
set_option maxRecDepth 100000 in
theorem open_part {r : Reach} {b0 : Nat} {v : Value} {d : DataW H} {p : List MemPlace} (hv : Value.okWide Tryd.prog w r b0 35 v) (h : DataW.Trod enc Tryd.prog w base sp held 35 v d p) :
    ∃ y : Part, v = partV y ∧ totP [y] ≤ Rows.uptoBulk d := by
  obtain ⟨cs, rfl, hsz⟩ := okWide_struct Tryd.underlying35 hv
  obtain ⟨fuel, hf⟩ := h
  obtain ⟨y, hy, hx⟩ := open_cells hf
  refine ⟨y, ?_, ?_⟩
  · unfold partV
    congr 1
    have e : (Value.agg cs).cells = cs := rfl
    rw [e] at hy
    exact Array.toList_inj.1 hy
  · rw [show d = partD y from congrArg Prod.fst hx]
    have := bulk_parts (H := H) [y]
    simp only [List.map_cons, List.map_nil, Rows.uptoBulkAll, List.length_cons, List.length_nil] at this
    omega
end
end Go.Proofs.YtdegjfmjjabnnaaDoor
