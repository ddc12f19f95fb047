import Derived.Test.YtfklmopnifkieaaGreatDoorRows
import Derived.Test.YtfklmopnifkieaaGreatDoorRuG
import Derived.ChangeMaps5
import Derived.ChangeArms
import Derived.ChangeSame
import Derived.ChangeSlices
import Derived.OpenShut
import Derived.Carry
import Derived.Deep.Slices
import Derived.Lib.SmallJoins
import Derived.KernelRfl
/-! Arguments of the laws that are rows of texts: how they read. -/
namespace Go.Proofs.YtfklmopnifkieaaGreatDoor
set_option linter.unusedSimpArgs false
set_option linter.unusedVariables false
set_option linter.constructorNameAsVariable false
open Go.RowKit Go.Joins Go.ChangeShapes Go.WideShapes
section
variable {H : Type} {enc : TypeId × Value → H} {w : World} {base : Nat} {sp : Nat → Bool} {held : Bool}
theorem cells_string : Tryz.prog.cellsOf 9 = 1 := by kernel_rfl
def strD {H : Type} (y : Stp) : DataW H := .lit (.string y)
def totS (l : List Stp) : Nat := (l.map List.length).sum
theorem open_str {fuel : Nat} {cs : List Value} {x : DataW H × List MemPlace} (h : DataW.trod enc Tryz.prog w base sp held fuel 9 cs = some x) : ∃ y : Stp, cs = [.string (bs y)] ∧ x = (strD y, []) := by
  obtain ⟨t, ht, rfl, _⟩ := DataW.trod_string Tryz.underlying9 h
  exact ⟨t.data.toList, by rw [ht, bs_of], rfl⟩
theorem bulk_texts : ∀ l : List Stp, totS l + l.length ≤ Rows.uptoBulkAll (l.map (strD (H := H)))
  | [] => Nat.le_refl _
  | y :: l => by
    have := bulk_texts l
    rw [List.map_cons, Rows.uptoBulkAll, List.length_cons]
    have e : totS (y :: l) = y.length + totS l := rfl
    rw [e]
    simp only [strD, Rows.uptoBulk]
    omega
theorem okWide_row {t e : TypeId} {r : Reach} {b0 : Nat} {v : Value} {u : Value} (ht : Tryz.prog.underlying t = some (.slice e)) (hv : Value.okWide Tryz.prog w r b0 t v) (hu : v.cells.toList = [u]) : v = u := by
  cases v <;> simp_all [Value.okWide, Cell.okWide, Cell.ok, Value.cells]
set_option maxRecDepth 100000 in
theorem open_texts {r : Reach} {b0 : Nat} {v : Value} {d : DataW H} {p : List MemPlace} (hv : Value.okWide Tryz.prog w r b0 23 v) (h : DataW.Trod enc Tryz.prog w base sp held 23 v d p) :
    ∃ l : List Stp, SV w v l ∧ totS l + l.length ≤ Rows.uptoBulk d := by
  obtain ⟨fuel, hf⟩ := h
  rcases Deep.open_slice Tryz.underlying23 hf with ⟨hc, hx⟩ | ⟨a, len, cap, m, n, D, Pl, hc, hb, hl, hm, hmm, hx, hi⟩
  · obtain rfl := okWide_row Tryz.underlying23 hv hc
    exact ⟨[], ⟨none, 0, rfl, Nat.le_refl _, .inl rfl⟩, Nat.zero_le _⟩
  · obtain rfl := okWide_row Tryz.underlying23 hv hc
    have hle : len ≤ m := by rw [hmm]; split <;> omega
    obtain ⟨Y, hY⟩ := Deep.choose_lt (α := Stp) (n := len) (p := fun i y => w.cells? base (a.add (i * 1)) 1 = some [.string (bs y)] ∧ D i = strD y) (fun i h => by
      obtain ⟨cs, h1, h2⟩ := hi i (by omega)
      obtain ⟨y, rfl, hy⟩ := open_str h2
      rw [cells_string] at h1
      exact ⟨y, h1, congrArg Prod.fst hy⟩)
    have hd : d = .slice (((List.range len).map Y).map strD) ((List.range (m - len)).map fun j => D (len + j)) := by
      have := congrArg Prod.fst hx
      simp only [] at this
      rw [this, List.map_map]
      congr 1
      exact List.map_congr_left fun i h => (hY i (List.mem_range.1 h)).2
    refine ⟨(List.range len).map Y, ⟨some a, cap, by simp, by simpa using hl, ?_⟩, ?_⟩
    · cases len with
      | zero => exact .inl rfl
      | succ k =>
        right
        have hsp : a.spot = none := by
          obtain ⟨_, _, hc0⟩ := World.cells?_some (hY 0 (by omega)).1
          have := hc0 0 (by omega)
          rw [Nat.zero_mul] at this
          unfold World.cell? Addr.add at this
          simp only [if_true] at this
          split at this
          · split at this
            · simp at this
            · rename_i hs; simpa using hs
          · simp at this
        obtain ⟨g, o, s⟩ := a
        obtain rfl : s = none := hsp
        have hadd : ∀ i j, ((⟨g, o, none⟩ : Addr).add i).add j = ⟨g, o + i + j, none⟩ := fun i j => by unfold Addr.add; split <;> split <;> simp_all
        have hcell : ∀ i, i < k + 1 → w.cell? ⟨g, o + i, none⟩ = some (.string (bs (Y i))) := fun i h => by
          obtain ⟨_, _, hc0⟩ := World.cells?_some (hY i h).1
          have c0 := hc0 0 (by omega)
          rw [hadd, Nat.mul_one, Nat.add_zero] at c0
          exact c0
        refine ⟨g, o, rfl, cell_lt (hcell 0 (by omega)), fun j x hx => ?_⟩
        rw [List.getElem?_map] at hx
        obtain ⟨i, hi1, rfl⟩ := Option.map_eq_some_iff.1 hx
        obtain ⟨hlt, hii⟩ := List.getElem?_eq_some_iff.1 hi1
        simp at hii hlt
        subst hii
        exact hcell _ (by omega)
    · rw [hd, Rows.uptoBulk]
      have := bulk_texts (H := H) ((List.range len).map Y)
      omega
theorem small_of {l : List Stp} (h : totS l + l.length ≤ 1048576) : SmallS l := ⟨by omega, fun x hx => by
  have : ∀ (l : List Stp), x ∈ l → x.length ≤ totS l := by
    intro l
    induction l with
    | nil => intro h; cases h
    | cons y l ih =>
      intro h
      have e : totS (y :: l) = y.length + totS l := rfl
      rw [e]
      rcases List.mem_cons.1 h with rfl | h
      · omega
      · have := ih h; omega
  have := this l hx
  omega⟩
end
end Go.Proofs.YtfklmopnifkieaaGreatDoor
