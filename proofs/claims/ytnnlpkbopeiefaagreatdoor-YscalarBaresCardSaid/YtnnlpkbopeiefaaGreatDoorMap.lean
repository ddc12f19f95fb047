import Derived.Test.YtnnlpkbopeiefaaGreatDoorSm
import Derived.Maps.Own
import Derived.Maps.OwnOps
import Derived.Maps.Views
/-! A map of keys that were had: made, looked up, put. -/
namespace Go.Proofs.YtnnlpkbopeiefaaGreatDoor
set_option linter.unusedSimpArgs false
set_option linter.unusedVariables false
open Go.RowKit Go.Maps Go.WideMaps
/-- The keys that were had, as a map reads. -/
def hadD : List (List UInt8) → DataW Unit
  | [] => .map []
  | k :: l => (hadD l).put (.string k) (.lit (.bool true))
theorem hadD_map : ∀ l, IsMap (hadD l)
  | [] => isMap_empty
  | k :: l => (hadD_map l).put _ _
theorem hadD_at (k : List UInt8) : ∀ l, (hadD l).atKey (.string k) (.lit (.bool false)) = .lit (.bool (decide (k ∈ l)))
  | [] => rfl
  | x :: l => by
    unfold hadD
    by_cases h : k = x
    · subst h
      rw [atKey_put_same (hadD_map l) (show WideAt.IsKeyLit (.string k) from trivial), decide_eq_true List.mem_cons_self]
    · rw [atKey_put_other (fun e => h (by injection e)), hadD_at k l]
      congr 2
      rw [decide_eq_decide]
      exact ⟨fun h1 => List.mem_cons_of_mem _ h1, fun h1 => (List.mem_cons.1 h1).resolve_left h⟩
def HM (b : Nat) (had : List (List UInt8)) (w : World) : Prop := w.ownsMap Tryz.prog 9 (plainElem Tryz.prog 4) b had.length (hadD had)
theorem lawK : Keyed Tryz.prog 9 := string_keyed Tryz.underlying9
theorem zeroB (w : World) : (zeroValue 4).run Tryz.prog w = .ok (.bool false) w := by kernel_rfl
theorem HM.look {b : Nat} {had : List (List UInt8)} {w : World} (h : HM b had w) (k : List UInt8) (hk : k.length ≤ 1073741824) : (Instr.lookup 201 (.map (some b)) (.string (bs k)) false).run Tryz.prog w = .ok (.bool (decide (k ∈ had))) w := by
  have hkey : keyOf Tryz.prog 9 (.string (bs k)) = some (.string k) := by
    have := keyOf_string_mk (P := Tryz.prog) Tryz.underlying9 (s := bs k) (by rw [bs_size]; unfold maxLen; omega)
    rw [bs_data] at this
    exact this
  obtain ⟨v, ps, hrun, hv⟩ := World.ownsMap.lookup h lawK Tryz.underlying201 (zeroB w) (plainElem_bool Tryz.underlying4 false) hkey
  rw [hadD_at] at hv
  have hvv : v = .bool (decide (k ∈ had)) := by
    unfold plainElem at hv
    rw [show Tryz.prog.underlying 4 = some .bool from Tryz.underlying4] at hv
    cases v <;> simp at hv
    rw [hv.1]
  rw [hrun, hvv]
theorem HM.lt {b : Nat} {had : List (List UInt8)} {w : World} (h : HM b had w) : b < w.heap.size := World.ownsMap.lt h
theorem HM.obj {b : Nat} {had : List (List UInt8)} {w : World} (h : HM b had w) : ∃ es c, w.heap[b]? = some (.map es c) := by
  obtain ⟨es, c, h1, _⟩ := h
  exact ⟨es, c, h1⟩
theorem HM.same {b : Nat} {had : List (List UInt8)} {w w' : World} (h : HM b had w) (hs : w'.heap[b]? = w.heap[b]?) : HM b had w' := by
  obtain ⟨es, c, h1, h2, h3, h4⟩ := h
  exact ⟨es, c, hs.trans h1, h2, h3, h4⟩
end Go.Proofs.YtnnlpkbopeiefaaGreatDoor
