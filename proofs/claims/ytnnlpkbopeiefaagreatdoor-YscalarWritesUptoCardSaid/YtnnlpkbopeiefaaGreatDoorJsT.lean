import Derived.Test.YtnnlpkbopeiefaaGreatDoorJsA
import Derived.Test.YtnnlpkbopeiefaaGreatDoorLexA
/-! PLAIN: the same tokens elsewhere are read as the same tree, moved. -/
namespace Go.Proofs.YtnnlpkbopeiefaaGreatDoor
set_option linter.unusedSimpArgs false
set_option linter.unusedVariables false
open Go.Lib
section
variable {α β : Type} {R : α → β → Prop}
end
section
variable {txt txt' : List UInt8} {a b m n : Nat} {deep : Prop} {V V' : VF}
end
theorem endM_ok {k : Nat} {x : JR} {r : List Tok} {l : Sp} {ns : List NodeD} (hx : endM k x = .ok r l ns) : ∃ ns', x = .ok r l ns' ∧ ns = setTo k l.2 ns' := by
  cases x with
  | bad a e => cases hx
  | ok r' l' ns' =>
    injection hx with h1 h2 h3
    subst h1 h2
    exact ⟨ns', rfl, h3.symm⟩
end Go.Proofs.YtnnlpkbopeiefaaGreatDoor
/-! PLAIN: the tokens of texts put together; a text in an array, and as a member. -/
namespace Go.Proofs.YtnnlpkbopeiefaaGreatDoor
set_option linter.unusedSimpArgs false
set_option linter.unusedVariables false
open Go.Lib
/-! The same text, elsewhere. -/
def nblk (ts : List Tok) : List Tok := ts.filter (fun t => t.kind != 1)
/-! What Parse hands back. -/
def finP (n : Nat) : JR → List NodeD × Int × Int
  | .bad a e => ([], (a : Int), e)
  | .ok [] _ ns => (ns, (n : Int), 0)
  | .ok (t :: _) _ _ => ([], (t.sf : Int), 2)
/-- What is wrong is told. -/
def Bd (V : VF) : Prop := ∀ rest last nodes key a e, V rest last nodes key = .bad a e → e ≠ 0
theorem kid_bad {txt : List UInt8} {V : VF} (hV : Bd V) {obj : Bool} {had had' : List (List UInt8)} {rest : List Tok} {last : Sp} {nodes : List NodeD} {a : Nat} {e : Int} (h : kidM txt V obj had rest last nodes = (.bad a e, had')) : e ≠ 0 := by
  unfold kidM at h
  split at h
  · injection h with h _; exact hV _ _ _ _ _ _ h
  · split at h
    · injection h with h _; injection h with _ h; rw [← h]; decide
    · split at h
      · injection h with h _; injection h with _ h; rw [← h]; decide
      · split at h
        · injection h with h _; injection h with _ h; rw [← h]; decide
        · split at h
          · injection h with h _; injection h with _ h; rw [← h]; decide
          · split at h
            · injection h with h _; injection h with _ h; rw [← h]; decide
            · injection h with h _; exact hV _ _ _ _ _ _ h
theorem loop_bad {txt : List UInt8} {V : VF} (hV : Bd V) (hE : Ext V) {closing : Nat} {obj : Bool} {n : Nat} : ∀ (f : Nat) {had : List (List UInt8)} {rest : List Tok} {last : Sp} {nodes : List NodeD} {a : Nat} {e : Int}, rest.length < f → loopM txt V closing obj n f had rest last nodes = .bad a e → e ≠ 0
  | 0, _, _, _, _, _, _, hf, _ => by omega
  | f + 1, had, rest, last, nodes, a, e, hf, h => by
    unfold loopM at h
    split at h
    · rename_i hk
      injection h with h1 h2
      subst h1 h2
      exact kid_bad hV hk
    · rename_i r1 l1 ns1 had1 hk
      obtain ⟨more, _, h2, h3, _⟩ := kid_ext hE hk
      split at h
      · injection h with _ h; rw [← h]; decide
      · simp only [List.length_cons] at h3
        split at h
        · cases h
        · split at h
          · exact loop_bad hV hE f (by omega) h
          · injection h with _ h; rw [← h]; decide
theorem kids_bad {txt : List UInt8} {V : VF} (hV : Bd V) (hE : Ext V) {closing : Nat} {obj : Bool} {n : Nat} {rest : List Tok} {last : Sp} {nodes : List NodeD} {a : Nat} {e : Int} (h : kidsM txt V closing obj n rest last nodes = .bad a e) : e ≠ 0 := by
  unfold kidsM at h
  split at h
  · exact loop_bad hV hE 1 (by simp) h
  · split at h
    · cases h
    · exact loop_bad hV hE _ (by simp) h
theorem endM_bad {k : Nat} {x : JR} {a : Nat} {e : Int} (hx : endM k x = .bad a e) : x = .bad a e := by
  cases x with
  | bad a' e' => exact hx
  | ok r' l' ns' => cases hx
theorem value_bad (txt : List UInt8) : ∀ lv, Bd (valueM txt lv)
  | 0 => fun rest last nodes key a e h => by
    unfold valueM at h
    split at h
    · injection h with _ h; rw [← h]; decide
    · injection h with _ h; rw [← h]; decide
  | lv + 1 => fun rest last nodes key a e h => by
    have ih := value_bad txt lv
    have hE := value_ext txt lv
    unfold valueM at h
    split at h
    · injection h with _ h; rw [← h]; decide
    · rename_i hk
      split at h
      · injection h with _ h; rw [← h]; decide
      · cases rest with
        | nil => exact absurd rfl hk
        | cons t r =>
          simp only [] at h
          have h1 := endM_bad h
          split at h1
          · exact kids_bad ih hE h1
          · split at h1
            · exact kids_bad ih hE h1
            · cases h1
theorem parse_eq (s : List UInt8) : parseJ s = if (toksL s).2.2 ≠ 0 then ([], (toksL s).2.1, (toksL s).2.2) else finP s.length (valueM s 32 (nblk (toksL s).1) (0, 0) [] (0, 0)) := by
  unfold parseJ nblk finP
  rfl
theorem toksL_none {s : List UInt8} (h : (toksL s).2.2 = 0) : s.length ≤ 65536 ∧ toksGo s.length s 0 = ((toksL s).1, none) := by
  unfold toksL at h ⊢
  by_cases hb : 65536 < s.length
  · rw [if_pos hb] at h; exact absurd h (by simp)
  · rw [if_neg hb] at h ⊢
    cases hG : (toksGo s.length s 0).2 with
    | none => exact ⟨by omega, Prod.ext rfl hG⟩
    | some x =>
      obtain ⟨p, e⟩ := x
      rw [hG] at h
      exact absurd h (toks_err s.length s 0 p e (Nat.le_refl _) hG).2.2
/-- What a text that is one looks like. -/
theorem parse_ok {s : List UInt8} (h : (parseJ s).2.2 = 0) : s.length ≤ 65536 ∧ ∃ T l ns, toksGo s.length s 0 = (T, none) ∧ valueM s 32 (nblk T) (0, 0) [] (0, 0) = .ok [] l ns ∧ parseJ s = (ns, (s.length : Int), 0) := by
  rw [parse_eq] at h ⊢
  by_cases h0 : (toksL s).2.2 = 0
  · rw [if_neg (by simpa using h0)] at h ⊢
    obtain ⟨h1, h2⟩ := toksL_none h0
    refine ⟨h1, (toksL s).1, ?_⟩
    cases hv : valueM s 32 (nblk (toksL s).1) (0, 0) [] (0, 0) with
    | bad a e => rw [hv] at h; exact absurd h (value_bad s 32 _ _ _ _ _ _ hv)
    | ok r l ns =>
      cases r with
      | cons t r => rw [hv] at h; exact absurd h (by simp [finP])
      | nil => exact ⟨l, ns, h2, rfl, rfl⟩
  · rw [if_pos h0] at h; exact absurd h h0
end Go.Proofs.YtnnlpkbopeiefaaGreatDoor
/-! PLAIN: blanks ahead of a text and behind it; a comma behind it. -/
namespace Go.Proofs.YtnnlpkbopeiefaaGreatDoor
set_option linter.unusedSimpArgs false
set_option linter.unusedVariables false
open Go.Lib
end Go.Proofs.YtnnlpkbopeiefaaGreatDoor
/-! PLAIN: what the nodes of a text are: each kid in its piece, the pieces one behind another. -/
namespace Go.Proofs.YtnnlpkbopeiefaaGreatDoor
set_option linter.unusedSimpArgs false
set_option linter.unusedVariables false
open Go.Lib
theorem mid_at {pre : List NodeD} {x : NodeD} {post nodes : List NodeD} (h : Mid pre x post nodes) : nodes[pre.length]? = some x := by
  rw [h.1, List.getElem?_append_right (Nat.le_refl _), Nat.sub_self]; rfl
theorem mid_len {pre : List NodeD} {x : NodeD} {post nodes : List NodeD} (h : Mid pre x post nodes) : nodes.length = pre.length + 1 + post.length := by
  rw [h.1, List.length_append, List.length_cons]; omega
end Go.Proofs.YtnnlpkbopeiefaaGreatDoor
/-! PLAIN: each node's bytes, alone, are the same tree. -/
namespace Go.Proofs.YtnnlpkbopeiefaaGreatDoor
set_option linter.unusedSimpArgs false
set_option linter.unusedVariables false
set_option linter.unnecessarySimpa false
open Go.Lib
end Go.Proofs.YtnnlpkbopeiefaaGreatDoor
